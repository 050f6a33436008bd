/- Chapter 10: tracks, frames, small functions walked. -/
import Derived.Test.YtjnedcncfdpjoaaChecked
import Derived.Test.YtjnedcncfdpjoaaOwn
import Derived.Test.YtjnedcncfdpjoaaOpS
import Derived.Test.YtjnedcncfdpjoaaQ
import Derived.Laws.StructEq
import Derived.IntWalk
import Derived.Deep.Cut
import Derived.Deep.RegionHeld3
import Derived.Outline
namespace Go.Proofs.Ytjnedcncfdpjoaa.W10
open Go.RowKit
set_option linter.unusedVariables false

/-- a returned bool, only new memory -/
def RB (b : Bool) (w : World) (e : Ending) (w' : World) : Prop := e = .returned (.bool b) ∧ Below w.heap.size w w'
/-- the cells of a track -/
def tcs (x : T.Trk) : List Value := [.int .i64 x.num, .int .i64 x.ses, .int .i64 x.st, .int .i64 x.len, .int .i64 x.nx, .int .i64 x.sta, .int .i64 x.pk]
theorem tcs_length (x : T.Trk) : (tcs x).length = 7 := rfl
theorem tcs_one (x : T.Trk) : ∀ u ∈ tcs x, u.oneCell' = true := by
  intro u hu
  simp only [tcs, List.mem_cons, List.not_mem_nil, or_false] at hu
  rcases hu with rfl | rfl | rfl | rfl | rfl | rfl | rfl <;> rfl
abbrev tagg (x : T.Trk) : Value := .agg #[.int .i64 x.num, .int .i64 x.ses, .int .i64 x.st, .int .i64 x.len, .int .i64 x.nx, .int .i64 x.sta, .int .i64 x.pk]
/-- a slice of tracks that is only read -/
def RdK (w : World) (v : Value) (l : List T.Trk) : Prop := RdD T.z tcs 7 w v l
theorem RdK.keep {w w' : World} {v : Value} {l : List T.Trk} (h : RdK w v l) (hb : Below w.heap.size w w') : RdK w' v l := RdS.keep h hb
theorem RdK.cells {w : World} {a : Option Addr} {n c : Nat} {l : List T.Trk} (h : RdK w (.slice a n c) l) : ∃ b off, ∀ i, i < l.length → a = some ⟨b, off, none⟩ ∧ w.rangeAt b (off + i * 7) (tcs (T.tr l i)) := RdD.at h
theorem rd7 {w : World} {b o : Nat} {x : T.Trk} (h : w.rangeAt b o (tcs x)) :
    w.cell? ⟨b, o, none⟩ = some (.int .i64 x.num) ∧ w.cell? ⟨b, o + 1, none⟩ = some (.int .i64 x.ses) ∧ w.cell? ⟨b, o + 2, none⟩ = some (.int .i64 x.st) ∧ w.cell? ⟨b, o + 3, none⟩ = some (.int .i64 x.len) ∧
    w.cell? ⟨b, o + 4, none⟩ = some (.int .i64 x.nx) ∧ w.cell? ⟨b, o + 5, none⟩ = some (.int .i64 x.sta) ∧ w.cell? ⟨b, o + 6, none⟩ = some (.int .i64 x.pk) :=
  ⟨h 0 _ rfl, h 1 _ rfl, h 2 _ rfl, h 3 _ rfl, h 4 _ rfl, h 5 _ rfl, h 6 _ rfl⟩
/-- an integer of 64 bits -/
def WfT (x : T.Trk) : Prop := In64 x.num ∧ In64 x.ses ∧ In64 x.st ∧ In64 x.len ∧ In64 x.nx ∧ In64 x.sta ∧ In64 x.pk
def WfL (l : List T.Trk) : Prop := ∀ i, i < l.length → WfT (T.tr l i)

def btw (n a b : Int) : Bool := decide (a ≤ n ∧ n ≤ b)
theorem btw_t {n a b : Int} (h1 : a ≤ n) (h2 : n ≤ b) : btw n a b = true := decide_eq_true ⟨h1, h2⟩
theorem btw_f {n a b : Int} (h : ¬ (a ≤ n ∧ n ≤ b)) : btw n a b = false := decide_eq_false h
end Go.Proofs.Ytjnedcncfdpjoaa.W10
