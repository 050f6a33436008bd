/-
  No cell of these rows narrows 'for every input' (looked for: loops, veiled, ifaces, maps, wideKeys, modest, calm, conditions, laid).
  DERIVED. THE GIVEN ROWS OF THIS SEAT. 6 by the template 'for every input the law returns true; each argument reads behind the call as it read before'; 0 by the template 'total and deterministic' (their statements: YtjnedcncfdpjoaaTotals.lean).
  GIVEN WITH THE SEED: the statements are not yours to turn. If you find one false, say at which input.
  Laid BY PROGRAM, IN A SANDBOX (cutbox-rows.mjs): the forced cells as the released guide's own fill.sh prints them over the translation d0de89af6f368f97… (all of the seat's roots in one cut). By AI agents, Wed Nov 11 2026. No macro, syntax, notation, axiom, sorry.
-/
import Derived.Test.YtjnedcncfdpjoaaChecked
import GoSem.Claim
import GoSem.ClaimJoined
import GoSem.ClaimMapViews
import Derived.JoinedTies
import Derived.KernelRfl
namespace Go.Proofs.Ytjnedcncfdpjoaa
/- THE CELL 'sum', in the pinned program and in every row, IS THE sha256 OF THE DUMP (.gsa) THAT YtjnedcncfdpjoaaProg.lean LOADS. Nothing in Lean hashes anything: it is a label: what it is worth is what the hold of that sum in a sandbox is worth. -/
noncomputable def Try.pinned : Pinned := { name := "ytjnedcncfdpjoaa", sum := "d0de89af6f368f973c2a684a8da247f49efb5988b2df5f343461d65feb7ed6bc", checked := Try.checked }
namespace Rows
def none {H : Type} : Left H := { results := [], args := [] }

/-- 'masterdisclaw13.DefectPartition': WHATEVER THE INPUT: true; the input reads as it did. -/
def defectPartitionSpec : ChangeSpec := { name := "defectPartition", fn := fun _ => fun
  | [d1, d2, d3, d4] => { results := [.lit (.bool true)], args := [d1, d2, d3, d4] }
  | _ => none }
def defectPartitionRow : OpenClaim := { program := "ytjnedcncfdpjoaa", sum := "d0de89af6f368f973c2a684a8da247f49efb5988b2df5f343461d65feb7ed6bc", func := "masterdisc/masterdisclaw13.DefectPartition", spec := "defectPartition", recurses := true, apart := false }
def DefectPartitionSaid : Prop := defectPartitionRow.holds Try.pinned (OpenSpec.ofChange defectPartitionSpec)

/-- ITS FALSE NEIGHBOUR: 'it returns false'. Refute it at one input. -/
def defectPartitionWrong : ChangeSpec := { name := "defectPartition", fn := fun _ => fun
  | [d1, d2, d3, d4] => { results := [.lit (.bool false)], args := [d1, d2, d3, d4] }
  | _ => none }
def DefectPartitionWrongFalsely : Prop := defectPartitionRow.holds Try.pinned (OpenSpec.ofChange defectPartitionWrong)

/-- 'masterdisclaw13.DefectStores': WHATEVER THE INPUT: true; the input reads as it did. -/
def defectStoresSpec : ChangeSpec := { name := "defectStores", fn := fun _ => fun
  | [d1, d2, d3, d4, d5] => { results := [.lit (.bool true)], args := [d1, d2, d3, d4, d5] }
  | _ => none }
def defectStoresRow : OpenClaim := { program := "ytjnedcncfdpjoaa", sum := "d0de89af6f368f973c2a684a8da247f49efb5988b2df5f343461d65feb7ed6bc", func := "masterdisc/masterdisclaw13.DefectStores", spec := "defectStores", recurses := true, apart := false }
def DefectStoresSaid : Prop := defectStoresRow.holds Try.pinned (OpenSpec.ofChange defectStoresSpec)

/-- ITS FALSE NEIGHBOUR: 'it returns false'. Refute it at one input. -/
def defectStoresWrong : ChangeSpec := { name := "defectStores", fn := fun _ => fun
  | [d1, d2, d3, d4, d5] => { results := [.lit (.bool false)], args := [d1, d2, d3, d4, d5] }
  | _ => none }
def DefectStoresWrongFalsely : Prop := defectStoresRow.holds Try.pinned (OpenSpec.ofChange defectStoresWrong)

/-- 'masterdisclaw13.DefectMoves': WHATEVER THE INPUT: true; the input reads as it did. -/
def defectMovesSpec : ChangeSpec := { name := "defectMoves", fn := fun _ => fun
  | [d1, d2, d3, d4] => { results := [.lit (.bool true)], args := [d1, d2, d3, d4] }
  | _ => none }
def defectMovesRow : OpenClaim := { program := "ytjnedcncfdpjoaa", sum := "d0de89af6f368f973c2a684a8da247f49efb5988b2df5f343461d65feb7ed6bc", func := "masterdisc/masterdisclaw13.DefectMoves", spec := "defectMoves", recurses := true, apart := false }
def DefectMovesSaid : Prop := defectMovesRow.holds Try.pinned (OpenSpec.ofChange defectMovesSpec)

/-- ITS FALSE NEIGHBOUR: 'it returns false'. Refute it at one input. -/
def defectMovesWrong : ChangeSpec := { name := "defectMoves", fn := fun _ => fun
  | [d1, d2, d3, d4] => { results := [.lit (.bool false)], args := [d1, d2, d3, d4] }
  | _ => none }
def DefectMovesWrongFalsely : Prop := defectMovesRow.holds Try.pinned (OpenSpec.ofChange defectMovesWrong)

/-- 'masterdisclaw13.DefectCounts': WHATEVER THE INPUT: true; the input reads as it did. -/
def defectCountsSpec : ChangeSpec := { name := "defectCounts", fn := fun _ => fun
  | [d1, d2, d3, d4] => { results := [.lit (.bool true)], args := [d1, d2, d3, d4] }
  | _ => none }
def defectCountsRow : OpenClaim := { program := "ytjnedcncfdpjoaa", sum := "d0de89af6f368f973c2a684a8da247f49efb5988b2df5f343461d65feb7ed6bc", func := "masterdisc/masterdisclaw13.DefectCounts", spec := "defectCounts", unfollowed := true, recurses := true, apart := false }
def DefectCountsSaid : Prop := defectCountsRow.holds Try.pinned (OpenSpec.ofChange defectCountsSpec)

/-- ITS FALSE NEIGHBOUR: 'it returns false'. Refute it at one input. -/
def defectCountsWrong : ChangeSpec := { name := "defectCounts", fn := fun _ => fun
  | [d1, d2, d3, d4] => { results := [.lit (.bool false)], args := [d1, d2, d3, d4] }
  | _ => none }
def DefectCountsWrongFalsely : Prop := defectCountsRow.holds Try.pinned (OpenSpec.ofChange defectCountsWrong)

/-- 'masterdisclaw13.DefectCalls': WHATEVER THE INPUT: true; the input reads as it did. -/
def defectCallsSpec : ChangeSpec := { name := "defectCalls", fn := fun _ => fun
  | [d1, d2, d3, d4] => { results := [.lit (.bool true)], args := [d1, d2, d3, d4] }
  | _ => none }
def defectCallsRow : OpenClaim := { program := "ytjnedcncfdpjoaa", sum := "d0de89af6f368f973c2a684a8da247f49efb5988b2df5f343461d65feb7ed6bc", func := "masterdisc/masterdisclaw13.DefectCalls", spec := "defectCalls", unfollowed := true, recurses := true, apart := false }
def DefectCallsSaid : Prop := defectCallsRow.holds Try.pinned (OpenSpec.ofChange defectCallsSpec)

/-- ITS FALSE NEIGHBOUR: 'it returns false'. Refute it at one input. -/
def defectCallsWrong : ChangeSpec := { name := "defectCalls", fn := fun _ => fun
  | [d1, d2, d3, d4] => { results := [.lit (.bool false)], args := [d1, d2, d3, d4] }
  | _ => none }
def DefectCallsWrongFalsely : Prop := defectCallsRow.holds Try.pinned (OpenSpec.ofChange defectCallsWrong)

/-- 'masterdisclaw13.DefectReturns': WHATEVER THE INPUT: true; the input reads as it did. -/
def defectReturnsSpec : ChangeSpec := { name := "defectReturns", fn := fun _ => fun
  | [d1, d2, d3, d4, d5] => { results := [.lit (.bool true)], args := [d1, d2, d3, d4, d5] }
  | _ => none }
def defectReturnsRow : OpenClaim := { program := "ytjnedcncfdpjoaa", sum := "d0de89af6f368f973c2a684a8da247f49efb5988b2df5f343461d65feb7ed6bc", func := "masterdisc/masterdisclaw13.DefectReturns", spec := "defectReturns", unfollowed := true, recurses := true, apart := false }
def DefectReturnsSaid : Prop := defectReturnsRow.holds Try.pinned (OpenSpec.ofChange defectReturnsSpec)

/-- ITS FALSE NEIGHBOUR: 'it returns false'. Refute it at one input. -/
def defectReturnsWrong : ChangeSpec := { name := "defectReturns", fn := fun _ => fun
  | [d1, d2, d3, d4, d5] => { results := [.lit (.bool false)], args := [d1, d2, d3, d4, d5] }
  | _ => none }
def DefectReturnsWrongFalsely : Prop := defectReturnsRow.holds Try.pinned (OpenSpec.ofChange defectReturnsWrong)

/- THE SECOND FORM. 'bulk': how many values and letters a reading holds, each counted each time it is reached (what is shared counts as often as it is met; a slice's spare places count too). A statement '..UptoSaid' is the law's where the arguments, and the package variables that the reading takes, are together of bulk at most 1048576: NARROWER than '..Said'. Prove '..Said' where nothing that the law and all that it calls make is longer than what came in: it says more and counts as full. Else prove '..UptoSaid'. A law counts once. -/
mutual
def uptoBulk {H : Type} : DataW H → Nat
  | .lit (.string bytes) => bytes.length + 1
  | .lit _ => 1
  | .nil => 1
  | .ptr d => uptoBulk d + 1
  | .slice elems spare => uptoBulkAll elems + uptoBulkAll spare + 1
  | .agg parts => uptoBulkAll parts + 1
  | .iface _ d => uptoBulk d + 1
  | .map entries => uptoBulkEntries entries + 1
  | .held _ => 1
def uptoBulkAll {H : Type} : List (DataW H) → Nat
  | [] => 0
  | d :: r => uptoBulk d + uptoBulkAll r
def uptoBulkEntries {H : Type} : List (Lit × DataW H) → Nat
  | [] => 0
  | x :: r => uptoBulkEntry x + uptoBulkEntries r
def uptoBulkEntry {H : Type} : Lit × DataW H → Nat
  | (.string bytes, d) => bytes.length + uptoBulk d + 1
  | (_, d) => uptoBulk d + 1
 end
def uptoSmall : (H : Type) → List (DataW H) → Bool := fun _ ds => decide (uptoBulkAll ds ≤ 1048576)
def OpenSpec.upto (s : _root_.Go.ChangeSpec) : _root_.Go.OpenSpec := { _root_.Go.OpenSpec.ofChange s with cond := some uptoSmall }

/-- 'masterdisclaw13.DefectPartition', WHERE WHAT IT READS IS OF BULK AT MOST 1048576: true; the input reads as it did. -/
def defectPartitionUptoRow : OpenClaim := { program := "ytjnedcncfdpjoaa", sum := "d0de89af6f368f973c2a684a8da247f49efb5988b2df5f343461d65feb7ed6bc", func := "masterdisc/masterdisclaw13.DefectPartition", spec := "defectPartition", recurses := true, apart := false, narrowed := true }
def DefectPartitionUptoSaid : Prop := defectPartitionUptoRow.holds Try.pinned (OpenSpec.upto defectPartitionSpec)

/-- 'masterdisclaw13.DefectStores', WHERE WHAT IT READS IS OF BULK AT MOST 1048576: true; the input reads as it did. -/
def defectStoresUptoRow : OpenClaim := { program := "ytjnedcncfdpjoaa", sum := "d0de89af6f368f973c2a684a8da247f49efb5988b2df5f343461d65feb7ed6bc", func := "masterdisc/masterdisclaw13.DefectStores", spec := "defectStores", recurses := true, apart := false, narrowed := true }
def DefectStoresUptoSaid : Prop := defectStoresUptoRow.holds Try.pinned (OpenSpec.upto defectStoresSpec)

/-- 'masterdisclaw13.DefectMoves', WHERE WHAT IT READS IS OF BULK AT MOST 1048576: true; the input reads as it did. -/
def defectMovesUptoRow : OpenClaim := { program := "ytjnedcncfdpjoaa", sum := "d0de89af6f368f973c2a684a8da247f49efb5988b2df5f343461d65feb7ed6bc", func := "masterdisc/masterdisclaw13.DefectMoves", spec := "defectMoves", recurses := true, apart := false, narrowed := true }
def DefectMovesUptoSaid : Prop := defectMovesUptoRow.holds Try.pinned (OpenSpec.upto defectMovesSpec)

/-- 'masterdisclaw13.DefectCounts', WHERE WHAT IT READS IS OF BULK AT MOST 1048576: true; the input reads as it did. -/
def defectCountsUptoRow : OpenClaim := { program := "ytjnedcncfdpjoaa", sum := "d0de89af6f368f973c2a684a8da247f49efb5988b2df5f343461d65feb7ed6bc", func := "masterdisc/masterdisclaw13.DefectCounts", spec := "defectCounts", unfollowed := true, recurses := true, apart := false, narrowed := true }
def DefectCountsUptoSaid : Prop := defectCountsUptoRow.holds Try.pinned (OpenSpec.upto defectCountsSpec)

/-- 'masterdisclaw13.DefectCalls', WHERE WHAT IT READS IS OF BULK AT MOST 1048576: true; the input reads as it did. -/
def defectCallsUptoRow : OpenClaim := { program := "ytjnedcncfdpjoaa", sum := "d0de89af6f368f973c2a684a8da247f49efb5988b2df5f343461d65feb7ed6bc", func := "masterdisc/masterdisclaw13.DefectCalls", spec := "defectCalls", unfollowed := true, recurses := true, apart := false, narrowed := true }
def DefectCallsUptoSaid : Prop := defectCallsUptoRow.holds Try.pinned (OpenSpec.upto defectCallsSpec)

/-- 'masterdisclaw13.DefectReturns', WHERE WHAT IT READS IS OF BULK AT MOST 1048576: true; the input reads as it did. -/
def defectReturnsUptoRow : OpenClaim := { program := "ytjnedcncfdpjoaa", sum := "d0de89af6f368f973c2a684a8da247f49efb5988b2df5f343461d65feb7ed6bc", func := "masterdisc/masterdisclaw13.DefectReturns", spec := "defectReturns", unfollowed := true, recurses := true, apart := false, narrowed := true }
def DefectReturnsUptoSaid : Prop := defectReturnsUptoRow.holds Try.pinned (OpenSpec.upto defectReturnsSpec)

end Rows
end Go.Proofs.Ytjnedcncfdpjoaa
