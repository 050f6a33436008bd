/- The package's rules walked (chapter 14). -/
import Derived.Test.YtjnedcncfdpjoaaTk
import Derived.Deep.RegionHeld3
import Derived.Outline
namespace Go.Proofs.Ytjnedcncfdpjoaa
open Go.RowKit
set_option linter.unusedVariables false

/-- a bool comes back, and nothing that was there has changed -/
def RB (b : Bool) (w : World) (e : Ending) (w' : World) : Prop := e = .returned (.bool b) ∧ Below w.heap.size w w'
/-- a track as a value -/
abbrev tagg (x : T.Trk) : Value := .agg #[.int .i64 x.num, .int .i64 x.ses, .int .i64 x.st, .int .i64 x.len, .int .i64 x.nx, .int .i64 x.sta, .int .i64 x.pk]
/-- the cells of a boxed table -/
def BoxT (w : World) (g : Nat) (cl : Int) (fin : Bool) (sv : Value) : Prop := w.cell? ⟨g, 0, none⟩ = some (.int .i64 cl) ∧ w.cell? ⟨g, 1, none⟩ = some (.bool fin) ∧ w.cell? ⟨g, 2, none⟩ = some sv

def R2 (k : Nat) (a s : Int) : Bool := decide ((k = 0 → a = 1) ∧ (0 < k → a - s = 0 ∨ a - s = 1))
end Go.Proofs.Ytjnedcncfdpjoaa
