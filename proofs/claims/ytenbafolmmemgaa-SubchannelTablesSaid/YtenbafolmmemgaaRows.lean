/-
  No cell of these rows narrows 'for every input' (looked for: loops, veiled, ifaces, maps, wideKeys, modest, calm, conditions, laid).
  DERIVED. THE GIVEN ROWS OF THIS SEAT. 7 by the template 'for every input the law returns true; each argument reads behind the call as it read before'; 0 by the template 'total and deterministic' (their statements: YtenbafolmmemgaaTotals.lean).
  GIVEN WITH THE SEED: the statements are not yours to turn. If you find one false, say at which input.
  Laid BY PROGRAM, IN A SANDBOX (cutbox-rows.mjs): the forced cells as the released guide's own fill.sh prints them over the translation 89322f7fb7b38f47… (all of the seat's roots in one cut). By AI agents, Wed Nov 11 2026. No macro, syntax, notation, axiom, sorry.
-/
import Derived.Test.YtenbafolmmemgaaChecked
import GoSem.Claim
import GoSem.ClaimJoined
import GoSem.ClaimMapViews
import Derived.JoinedTies
import Derived.KernelRfl
namespace Go.Proofs.Ytenbafolmmemgaa
/- THE CELL 'sum', in the pinned program and in every row, IS THE sha256 OF THE DUMP (.gsa) THAT YtenbafolmmemgaaProg.lean LOADS. Nothing in Lean hashes anything: it is a label: what it is worth is what the hold of that sum in a sandbox is worth. -/
noncomputable def Try.pinned : Pinned := { name := "ytenbafolmmemgaa", sum := "89322f7fb7b38f47a276875c29a582e75674cb63dbaab37d107b9689651299f9", checked := Try.checked }
namespace Rows
def none {H : Type} : Left H := { results := [], args := [] }

/-- 'masterdisclaw10.SubchannelPositions': WHATEVER THE INPUT: true; the input reads as it did. -/
def subchannelPositionsSpec : ChangeSpec := { name := "subchannelPositions", fn := fun _ => fun
  | [d1, d2, d3] => { results := [.lit (.bool true)], args := [d1, d2, d3] }
  | _ => none }
def subchannelPositionsRow : OpenClaim := { program := "ytenbafolmmemgaa", sum := "89322f7fb7b38f47a276875c29a582e75674cb63dbaab37d107b9689651299f9", func := "masterdisc/masterdisclaw10.SubchannelPositions", spec := "subchannelPositions", inPlace := ["internal/abi.NoEscape"], unfollowed := true, recurses := true, apart := false }
def SubchannelPositionsSaid : Prop := subchannelPositionsRow.holds Try.pinned (OpenSpec.ofChange subchannelPositionsSpec)

/-- ITS FALSE NEIGHBOUR: 'it returns false'. Refute it at one input. -/
def subchannelPositionsWrong : ChangeSpec := { name := "subchannelPositions", fn := fun _ => fun
  | [d1, d2, d3] => { results := [.lit (.bool false)], args := [d1, d2, d3] }
  | _ => none }
def SubchannelPositionsWrongFalsely : Prop := subchannelPositionsRow.holds Try.pinned (OpenSpec.ofChange subchannelPositionsWrong)

/-- 'masterdisclaw10.SubchannelCounts': WHATEVER THE INPUT: true; the input reads as it did. -/
def subchannelCountsSpec : ChangeSpec := { name := "subchannelCounts", fn := fun _ => fun
  | [d1, d2, d3] => { results := [.lit (.bool true)], args := [d1, d2, d3] }
  | _ => none }
def subchannelCountsRow : OpenClaim := { program := "ytenbafolmmemgaa", sum := "89322f7fb7b38f47a276875c29a582e75674cb63dbaab37d107b9689651299f9", func := "masterdisc/masterdisclaw10.SubchannelCounts", spec := "subchannelCounts", inPlace := ["internal/abi.NoEscape"], unfollowed := true, recurses := true, apart := false }
def SubchannelCountsSaid : Prop := subchannelCountsRow.holds Try.pinned (OpenSpec.ofChange subchannelCountsSpec)

/-- ITS FALSE NEIGHBOUR: 'it returns false'. Refute it at one input. -/
def subchannelCountsWrong : ChangeSpec := { name := "subchannelCounts", fn := fun _ => fun
  | [d1, d2, d3] => { results := [.lit (.bool false)], args := [d1, d2, d3] }
  | _ => none }
def SubchannelCountsWrongFalsely : Prop := subchannelCountsRow.holds Try.pinned (OpenSpec.ofChange subchannelCountsWrong)

/-- 'masterdisclaw10.SubchannelCollects': WHATEVER THE INPUT: true; the input reads as it did. -/
def subchannelCollectsSpec : ChangeSpec := { name := "subchannelCollects", fn := fun _ => fun
  | [d] => { results := [.lit (.bool true)], args := [d] }
  | _ => none }
def subchannelCollectsRow : OpenClaim := { program := "ytenbafolmmemgaa", sum := "89322f7fb7b38f47a276875c29a582e75674cb63dbaab37d107b9689651299f9", func := "masterdisc/masterdisclaw10.SubchannelCollects", spec := "subchannelCollects", inPlace := ["internal/abi.NoEscape"], unfollowed := true, recurses := true, apart := false }
def SubchannelCollectsSaid : Prop := subchannelCollectsRow.holds Try.pinned (OpenSpec.ofChange subchannelCollectsSpec)

/-- ITS FALSE NEIGHBOUR: 'it returns false'. Refute it at one input. -/
def subchannelCollectsWrong : ChangeSpec := { name := "subchannelCollects", fn := fun _ => fun
  | [d] => { results := [.lit (.bool false)], args := [d] }
  | _ => none }
def SubchannelCollectsWrongFalsely : Prop := subchannelCollectsRow.holds Try.pinned (OpenSpec.ofChange subchannelCollectsWrong)

/-- 'masterdisclaw10.SubchannelFrames': WHATEVER THE INPUT: true; the input reads as it did. -/
def subchannelFramesSpec : ChangeSpec := { name := "subchannelFrames", fn := fun _ => fun
  | [d1, d2] => { results := [.lit (.bool true)], args := [d1, d2] }
  | _ => none }
def subchannelFramesRow : OpenClaim := { program := "ytenbafolmmemgaa", sum := "89322f7fb7b38f47a276875c29a582e75674cb63dbaab37d107b9689651299f9", func := "masterdisc/masterdisclaw10.SubchannelFrames", spec := "subchannelFrames", inPlace := ["internal/abi.NoEscape"], unfollowed := true, recurses := true, apart := false }
def SubchannelFramesSaid : Prop := subchannelFramesRow.holds Try.pinned (OpenSpec.ofChange subchannelFramesSpec)

/-- ITS FALSE NEIGHBOUR: 'it returns false'. Refute it at one input. -/
def subchannelFramesWrong : ChangeSpec := { name := "subchannelFrames", fn := fun _ => fun
  | [d1, d2] => { results := [.lit (.bool false)], args := [d1, d2] }
  | _ => none }
def SubchannelFramesWrongFalsely : Prop := subchannelFramesRow.holds Try.pinned (OpenSpec.ofChange subchannelFramesWrong)

/-- 'masterdisclaw10.SubchannelReturns': WHATEVER THE INPUT: true; the input reads as it did. -/
def subchannelReturnsSpec : ChangeSpec := { name := "subchannelReturns", fn := fun _ => fun
  | [d1, d2] => { results := [.lit (.bool true)], args := [d1, d2] }
  | _ => none }
def subchannelReturnsRow : OpenClaim := { program := "ytenbafolmmemgaa", sum := "89322f7fb7b38f47a276875c29a582e75674cb63dbaab37d107b9689651299f9", func := "masterdisc/masterdisclaw10.SubchannelReturns", spec := "subchannelReturns", inPlace := ["internal/abi.NoEscape"], unfollowed := true, recurses := true, apart := false }
def SubchannelReturnsSaid : Prop := subchannelReturnsRow.holds Try.pinned (OpenSpec.ofChange subchannelReturnsSpec)

/-- ITS FALSE NEIGHBOUR: 'it returns false'. Refute it at one input. -/
def subchannelReturnsWrong : ChangeSpec := { name := "subchannelReturns", fn := fun _ => fun
  | [d1, d2] => { results := [.lit (.bool false)], args := [d1, d2] }
  | _ => none }
def SubchannelReturnsWrongFalsely : Prop := subchannelReturnsRow.holds Try.pinned (OpenSpec.ofChange subchannelReturnsWrong)

/-- 'masterdisclaw10.SubchannelDetects': WHATEVER THE INPUT: true; the input reads as it did. -/
def subchannelDetectsSpec : ChangeSpec := { name := "subchannelDetects", fn := fun _ => fun
  | [d1, d2, d3] => { results := [.lit (.bool true)], args := [d1, d2, d3] }
  | _ => none }
def subchannelDetectsRow : OpenClaim := { program := "ytenbafolmmemgaa", sum := "89322f7fb7b38f47a276875c29a582e75674cb63dbaab37d107b9689651299f9", func := "masterdisc/masterdisclaw10.SubchannelDetects", spec := "subchannelDetects", inPlace := ["internal/abi.NoEscape"], unfollowed := true, recurses := true, apart := false }
def SubchannelDetectsSaid : Prop := subchannelDetectsRow.holds Try.pinned (OpenSpec.ofChange subchannelDetectsSpec)

/-- ITS FALSE NEIGHBOUR: 'it returns false'. Refute it at one input. -/
def subchannelDetectsWrong : ChangeSpec := { name := "subchannelDetects", fn := fun _ => fun
  | [d1, d2, d3] => { results := [.lit (.bool false)], args := [d1, d2, d3] }
  | _ => none }
def SubchannelDetectsWrongFalsely : Prop := subchannelDetectsRow.holds Try.pinned (OpenSpec.ofChange subchannelDetectsWrong)

/-- 'masterdisclaw10.SubchannelTables': WHATEVER THE INPUT: true; the input reads as it did. -/
def subchannelTablesSpec : ChangeSpec := { name := "subchannelTables", fn := fun _ => fun
  | [d1, d2, d3] => { results := [.lit (.bool true)], args := [d1, d2, d3] }
  | _ => none }
def subchannelTablesRow : OpenClaim := { program := "ytenbafolmmemgaa", sum := "89322f7fb7b38f47a276875c29a582e75674cb63dbaab37d107b9689651299f9", func := "masterdisc/masterdisclaw10.SubchannelTables", spec := "subchannelTables", inPlace := ["internal/abi.NoEscape"], unfollowed := true, recurses := true, apart := false }
def SubchannelTablesSaid : Prop := subchannelTablesRow.holds Try.pinned (OpenSpec.ofChange subchannelTablesSpec)

/-- ITS FALSE NEIGHBOUR: 'it returns false'. Refute it at one input. -/
def subchannelTablesWrong : ChangeSpec := { name := "subchannelTables", fn := fun _ => fun
  | [d1, d2, d3] => { results := [.lit (.bool false)], args := [d1, d2, d3] }
  | _ => none }
def SubchannelTablesWrongFalsely : Prop := subchannelTablesRow.holds Try.pinned (OpenSpec.ofChange subchannelTablesWrong)

/- THE SECOND FORM. 'bulk': how many values and letters a reading holds, each counted each time it is reached (what is shared counts as often as it is met; a slice's spare places count too). A statement '..UptoSaid' is the law's where the arguments, and the package variables that the reading takes, are together of bulk at most 1048576: NARROWER than '..Said'. Prove '..Said' where nothing that the law and all that it calls make is longer than what came in: it says more and counts as full. Else prove '..UptoSaid'. A law counts once. -/
mutual
def uptoBulk {H : Type} : DataW H → Nat
  | .lit (.string bytes) => bytes.length + 1
  | .lit _ => 1
  | .nil => 1
  | .ptr d => uptoBulk d + 1
  | .slice elems spare => uptoBulkAll elems + uptoBulkAll spare + 1
  | .agg parts => uptoBulkAll parts + 1
  | .iface _ d => uptoBulk d + 1
  | .map entries => uptoBulkEntries entries + 1
  | .held _ => 1
def uptoBulkAll {H : Type} : List (DataW H) → Nat
  | [] => 0
  | d :: r => uptoBulk d + uptoBulkAll r
def uptoBulkEntries {H : Type} : List (Lit × DataW H) → Nat
  | [] => 0
  | x :: r => uptoBulkEntry x + uptoBulkEntries r
def uptoBulkEntry {H : Type} : Lit × DataW H → Nat
  | (.string bytes, d) => bytes.length + uptoBulk d + 1
  | (_, d) => uptoBulk d + 1
 end
def uptoSmall : (H : Type) → List (DataW H) → Bool := fun _ ds => decide (uptoBulkAll ds ≤ 1048576)
def OpenSpec.upto (s : _root_.Go.ChangeSpec) : _root_.Go.OpenSpec := { _root_.Go.OpenSpec.ofChange s with cond := some uptoSmall }

/-- 'masterdisclaw10.SubchannelPositions', WHERE WHAT IT READS IS OF BULK AT MOST 1048576: true; the input reads as it did. -/
def subchannelPositionsUptoRow : OpenClaim := { program := "ytenbafolmmemgaa", sum := "89322f7fb7b38f47a276875c29a582e75674cb63dbaab37d107b9689651299f9", func := "masterdisc/masterdisclaw10.SubchannelPositions", spec := "subchannelPositions", inPlace := ["internal/abi.NoEscape"], unfollowed := true, recurses := true, apart := false, narrowed := true }
def SubchannelPositionsUptoSaid : Prop := subchannelPositionsUptoRow.holds Try.pinned (OpenSpec.upto subchannelPositionsSpec)

/-- 'masterdisclaw10.SubchannelCounts', WHERE WHAT IT READS IS OF BULK AT MOST 1048576: true; the input reads as it did. -/
def subchannelCountsUptoRow : OpenClaim := { program := "ytenbafolmmemgaa", sum := "89322f7fb7b38f47a276875c29a582e75674cb63dbaab37d107b9689651299f9", func := "masterdisc/masterdisclaw10.SubchannelCounts", spec := "subchannelCounts", inPlace := ["internal/abi.NoEscape"], unfollowed := true, recurses := true, apart := false, narrowed := true }
def SubchannelCountsUptoSaid : Prop := subchannelCountsUptoRow.holds Try.pinned (OpenSpec.upto subchannelCountsSpec)

/-- 'masterdisclaw10.SubchannelCollects', WHERE WHAT IT READS IS OF BULK AT MOST 1048576: true; the input reads as it did. -/
def subchannelCollectsUptoRow : OpenClaim := { program := "ytenbafolmmemgaa", sum := "89322f7fb7b38f47a276875c29a582e75674cb63dbaab37d107b9689651299f9", func := "masterdisc/masterdisclaw10.SubchannelCollects", spec := "subchannelCollects", inPlace := ["internal/abi.NoEscape"], unfollowed := true, recurses := true, apart := false, narrowed := true }
def SubchannelCollectsUptoSaid : Prop := subchannelCollectsUptoRow.holds Try.pinned (OpenSpec.upto subchannelCollectsSpec)

/-- 'masterdisclaw10.SubchannelFrames', WHERE WHAT IT READS IS OF BULK AT MOST 1048576: true; the input reads as it did. -/
def subchannelFramesUptoRow : OpenClaim := { program := "ytenbafolmmemgaa", sum := "89322f7fb7b38f47a276875c29a582e75674cb63dbaab37d107b9689651299f9", func := "masterdisc/masterdisclaw10.SubchannelFrames", spec := "subchannelFrames", inPlace := ["internal/abi.NoEscape"], unfollowed := true, recurses := true, apart := false, narrowed := true }
def SubchannelFramesUptoSaid : Prop := subchannelFramesUptoRow.holds Try.pinned (OpenSpec.upto subchannelFramesSpec)

/-- 'masterdisclaw10.SubchannelReturns', WHERE WHAT IT READS IS OF BULK AT MOST 1048576: true; the input reads as it did. -/
def subchannelReturnsUptoRow : OpenClaim := { program := "ytenbafolmmemgaa", sum := "89322f7fb7b38f47a276875c29a582e75674cb63dbaab37d107b9689651299f9", func := "masterdisc/masterdisclaw10.SubchannelReturns", spec := "subchannelReturns", inPlace := ["internal/abi.NoEscape"], unfollowed := true, recurses := true, apart := false, narrowed := true }
def SubchannelReturnsUptoSaid : Prop := subchannelReturnsUptoRow.holds Try.pinned (OpenSpec.upto subchannelReturnsSpec)

/-- 'masterdisclaw10.SubchannelDetects', WHERE WHAT IT READS IS OF BULK AT MOST 1048576: true; the input reads as it did. -/
def subchannelDetectsUptoRow : OpenClaim := { program := "ytenbafolmmemgaa", sum := "89322f7fb7b38f47a276875c29a582e75674cb63dbaab37d107b9689651299f9", func := "masterdisc/masterdisclaw10.SubchannelDetects", spec := "subchannelDetects", inPlace := ["internal/abi.NoEscape"], unfollowed := true, recurses := true, apart := false, narrowed := true }
def SubchannelDetectsUptoSaid : Prop := subchannelDetectsUptoRow.holds Try.pinned (OpenSpec.upto subchannelDetectsSpec)

/-- 'masterdisclaw10.SubchannelTables', WHERE WHAT IT READS IS OF BULK AT MOST 1048576: true; the input reads as it did. -/
def subchannelTablesUptoRow : OpenClaim := { program := "ytenbafolmmemgaa", sum := "89322f7fb7b38f47a276875c29a582e75674cb63dbaab37d107b9689651299f9", func := "masterdisc/masterdisclaw10.SubchannelTables", spec := "subchannelTables", inPlace := ["internal/abi.NoEscape"], unfollowed := true, recurses := true, apart := false, narrowed := true }
def SubchannelTablesUptoSaid : Prop := subchannelTablesUptoRow.holds Try.pinned (OpenSpec.upto subchannelTablesSpec)

end Rows
end Go.Proofs.Ytenbafolmmemgaa
