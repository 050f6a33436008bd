/- Chapter 10: the first track that ends behind a block (slices.IndexFunc). -/
import Derived.Test.YtiioojlihapdaaaQm
namespace Go.Proofs.Ytiioojlihapdaaa.W10
open Go.RowKit
set_option linter.unusedVariables false

/-- tracks that are those of a session -/
def Fine (x : T.Trk) : Prop := 0 ≤ x.st ∧ x.st ≤ 449849 ∧ 1 ≤ x.len ∧ x.len ≤ 449849
def idxV (l : List T.Trk) (lba : Int) : Int := match Q.firstP l lba l.length with
  | none => -1
  | some i => i
def Behind (l : List T.Trk) (lba : Int) (i : Nat) : Prop := ∀ m, m < i → ¬ lba < Q.en l m
def Past (x : T.Trk) (lba : Int) : Prop := ¬ lba < x.st + x.len
end Go.Proofs.Ytiioojlihapdaaa.W10
