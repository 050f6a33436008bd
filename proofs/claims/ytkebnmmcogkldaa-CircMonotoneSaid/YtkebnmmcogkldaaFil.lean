/- Walks of Fill and Decode of the package reedsolomon. -/
import Derived.Test.YtkebnmmcogkldaaChg
import Derived.Test.YtkebnmmcogkldaaAlg
namespace Go.Proofs.Ytkebnmmcogkldaa
open Go.RowKit
set_option linter.unusedVariables false


def FillOut (p o : List UInt8) (n : Nat) (w : World) (e : Ending) (w' : World) : Prop :=
  e = .returned (.tuple (if G.validB o n = true then #[.string (str o), .int .i64 0] else #[.string (str []), .int .i64 11])) ∧ Below w.heap.size w w'

end Go.Proofs.Ytkebnmmcogkldaa
