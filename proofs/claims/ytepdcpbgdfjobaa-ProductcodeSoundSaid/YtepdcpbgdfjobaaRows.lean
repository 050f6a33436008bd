/-
  No cell of these rows narrows 'for every input' (looked for: loops, veiled, ifaces, maps, wideKeys, modest, calm, conditions, laid).
  DERIVED. THE GIVEN ROWS OF THIS SEAT. 8 by the template 'for every input the law returns true; each argument reads behind the call as it read before'; 0 by the template 'total and deterministic' (their statements: YtepdcpbgdfjobaaTotals.lean).
  GIVEN WITH THE SEED: the statements are not yours to turn. If you find one false, say at which input.
  Laid BY PROGRAM, IN A SANDBOX (cutbox-rows.mjs): the forced cells as the released guide's own fill.sh prints them over the translation f1a5eaafe3258c6b… (all of the seat's roots in one cut). By AI agents, Wed Nov 11 2026. No macro, syntax, notation, axiom, sorry.
-/
import Derived.Test.YtepdcpbgdfjobaaChecked
import GoSem.Claim
import GoSem.ClaimJoined
import GoSem.ClaimMapViews
import Derived.JoinedTies
import Derived.KernelRfl
namespace Go.Proofs.Ytepdcpbgdfjobaa
/- THE CELL 'sum', in the pinned program and in every row, IS THE sha256 OF THE DUMP (.gsa) THAT YtepdcpbgdfjobaaProg.lean LOADS. Nothing in Lean hashes anything: it is a label: what it is worth is what the hold of that sum in a sandbox is worth. -/
noncomputable def Try.pinned : Pinned := { name := "ytepdcpbgdfjobaa", sum := "f1a5eaafe3258c6b85dd22ef022315362b02c4ed769a50c7c056dd7c75073d2e", checked := Try.checked }
namespace Rows
def none {H : Type} : Left H := { results := [], args := [] }

/-- 'masterdisclaw08.ProductcodePartition': WHATEVER THE INPUT: true; the input reads as it did. -/
def productcodePartitionSpec : ChangeSpec := { name := "productcodePartition", fn := fun _ => fun
  | [d] => { results := [.lit (.bool true)], args := [d] }
  | _ => none }
def productcodePartitionRow : OpenClaim := { program := "ytepdcpbgdfjobaa", sum := "f1a5eaafe3258c6b85dd22ef022315362b02c4ed769a50c7c056dd7c75073d2e", func := "masterdisc/masterdisclaw08.ProductcodePartition", spec := "productcodePartition", inPlace := ["internal/abi.NoEscape", "internal/bytealg.MakeNoZero"], unfollowed := true, recurses := true, apart := false }
def ProductcodePartitionSaid : Prop := productcodePartitionRow.holds Try.pinned (OpenSpec.ofChange productcodePartitionSpec)

/-- ITS FALSE NEIGHBOUR: 'it returns false'. Refute it at one input. -/
def productcodePartitionWrong : ChangeSpec := { name := "productcodePartition", fn := fun _ => fun
  | [d] => { results := [.lit (.bool false)], args := [d] }
  | _ => none }
def ProductcodePartitionWrongFalsely : Prop := productcodePartitionRow.holds Try.pinned (OpenSpec.ofChange productcodePartitionWrong)

/-- 'masterdisclaw08.ProductcodeWords': WHATEVER THE INPUT: true; the input reads as it did. -/
def productcodeWordsSpec : ChangeSpec := { name := "productcodeWords", fn := fun _ => fun
  | [d] => { results := [.lit (.bool true)], args := [d] }
  | _ => none }
def productcodeWordsRow : OpenClaim := { program := "ytepdcpbgdfjobaa", sum := "f1a5eaafe3258c6b85dd22ef022315362b02c4ed769a50c7c056dd7c75073d2e", func := "masterdisc/masterdisclaw08.ProductcodeWords", spec := "productcodeWords", inPlace := ["internal/abi.NoEscape", "internal/bytealg.MakeNoZero"], unfollowed := true, recurses := true, apart := false }
def ProductcodeWordsSaid : Prop := productcodeWordsRow.holds Try.pinned (OpenSpec.ofChange productcodeWordsSpec)

/-- ITS FALSE NEIGHBOUR: 'it returns false'. Refute it at one input. -/
def productcodeWordsWrong : ChangeSpec := { name := "productcodeWords", fn := fun _ => fun
  | [d] => { results := [.lit (.bool false)], args := [d] }
  | _ => none }
def ProductcodeWordsWrongFalsely : Prop := productcodeWordsRow.holds Try.pinned (OpenSpec.ofChange productcodeWordsWrong)

/-- 'masterdisclaw08.ProductcodeEncodes': WHATEVER THE INPUT: true; the input reads as it did. -/
def productcodeEncodesSpec : ChangeSpec := { name := "productcodeEncodes", fn := fun _ => fun
  | [d1, d2] => { results := [.lit (.bool true)], args := [d1, d2] }
  | _ => none }
def productcodeEncodesRow : OpenClaim := { program := "ytepdcpbgdfjobaa", sum := "f1a5eaafe3258c6b85dd22ef022315362b02c4ed769a50c7c056dd7c75073d2e", func := "masterdisc/masterdisclaw08.ProductcodeEncodes", spec := "productcodeEncodes", inPlace := ["internal/abi.NoEscape", "internal/bytealg.MakeNoZero"], unfollowed := true, recurses := true, apart := false }
def ProductcodeEncodesSaid : Prop := productcodeEncodesRow.holds Try.pinned (OpenSpec.ofChange productcodeEncodesSpec)

/-- ITS FALSE NEIGHBOUR: 'it returns false'. Refute it at one input. -/
def productcodeEncodesWrong : ChangeSpec := { name := "productcodeEncodes", fn := fun _ => fun
  | [d1, d2] => { results := [.lit (.bool false)], args := [d1, d2] }
  | _ => none }
def ProductcodeEncodesWrongFalsely : Prop := productcodeEncodesRow.holds Try.pinned (OpenSpec.ofChange productcodeEncodesWrong)

/-- 'masterdisclaw08.ProductcodeLinear': WHATEVER THE INPUT: true; the input reads as it did. -/
def productcodeLinearSpec : ChangeSpec := { name := "productcodeLinear", fn := fun _ => fun
  | [d1, d2, d3] => { results := [.lit (.bool true)], args := [d1, d2, d3] }
  | _ => none }
def productcodeLinearRow : OpenClaim := { program := "ytepdcpbgdfjobaa", sum := "f1a5eaafe3258c6b85dd22ef022315362b02c4ed769a50c7c056dd7c75073d2e", func := "masterdisc/masterdisclaw08.ProductcodeLinear", spec := "productcodeLinear", inPlace := ["internal/abi.NoEscape", "internal/bytealg.MakeNoZero"], unfollowed := true, recurses := true, apart := false }
def ProductcodeLinearSaid : Prop := productcodeLinearRow.holds Try.pinned (OpenSpec.ofChange productcodeLinearSpec)

/-- ITS FALSE NEIGHBOUR: 'it returns false'. Refute it at one input. -/
def productcodeLinearWrong : ChangeSpec := { name := "productcodeLinear", fn := fun _ => fun
  | [d1, d2, d3] => { results := [.lit (.bool false)], args := [d1, d2, d3] }
  | _ => none }
def ProductcodeLinearWrongFalsely : Prop := productcodeLinearRow.holds Try.pinned (OpenSpec.ofChange productcodeLinearWrong)

/-- 'masterdisclaw08.ProductcodeBursts': WHATEVER THE INPUT: true; the input reads as it did. -/
def productcodeBurstsSpec : ChangeSpec := { name := "productcodeBursts", fn := fun _ => fun
  | [d1, d2, d3, d4, d5] => { results := [.lit (.bool true)], args := [d1, d2, d3, d4, d5] }
  | _ => none }
def productcodeBurstsRow : OpenClaim := { program := "ytepdcpbgdfjobaa", sum := "f1a5eaafe3258c6b85dd22ef022315362b02c4ed769a50c7c056dd7c75073d2e", func := "masterdisc/masterdisclaw08.ProductcodeBursts", spec := "productcodeBursts", inPlace := ["internal/abi.NoEscape", "internal/bytealg.MakeNoZero"], unfollowed := true, recurses := true, apart := false }
def ProductcodeBurstsSaid : Prop := productcodeBurstsRow.holds Try.pinned (OpenSpec.ofChange productcodeBurstsSpec)

/-- ITS FALSE NEIGHBOUR: 'it returns false'. Refute it at one input. -/
def productcodeBurstsWrong : ChangeSpec := { name := "productcodeBursts", fn := fun _ => fun
  | [d1, d2, d3, d4, d5] => { results := [.lit (.bool false)], args := [d1, d2, d3, d4, d5] }
  | _ => none }
def ProductcodeBurstsWrongFalsely : Prop := productcodeBurstsRow.holds Try.pinned (OpenSpec.ofChange productcodeBurstsWrong)

/-- 'masterdisclaw08.ProductcodeErrors': WHATEVER THE INPUT: true; the input reads as it did. -/
def productcodeErrorsSpec : ChangeSpec := { name := "productcodeErrors", fn := fun _ => fun
  | [d1, d2, d3] => { results := [.lit (.bool true)], args := [d1, d2, d3] }
  | _ => none }
def productcodeErrorsRow : OpenClaim := { program := "ytepdcpbgdfjobaa", sum := "f1a5eaafe3258c6b85dd22ef022315362b02c4ed769a50c7c056dd7c75073d2e", func := "masterdisc/masterdisclaw08.ProductcodeErrors", spec := "productcodeErrors", inPlace := ["internal/abi.NoEscape", "internal/bytealg.MakeNoZero"], unfollowed := true, recurses := true, apart := false }
def ProductcodeErrorsSaid : Prop := productcodeErrorsRow.holds Try.pinned (OpenSpec.ofChange productcodeErrorsSpec)

/-- ITS FALSE NEIGHBOUR: 'it returns false'. Refute it at one input. -/
def productcodeErrorsWrong : ChangeSpec := { name := "productcodeErrors", fn := fun _ => fun
  | [d1, d2, d3] => { results := [.lit (.bool false)], args := [d1, d2, d3] }
  | _ => none }
def ProductcodeErrorsWrongFalsely : Prop := productcodeErrorsRow.holds Try.pinned (OpenSpec.ofChange productcodeErrorsWrong)

/-- 'masterdisclaw08.ProductcodeSound': WHATEVER THE INPUT: true; the input reads as it did. -/
def productcodeSoundSpec : ChangeSpec := { name := "productcodeSound", fn := fun _ => fun
  | [d1, d2, d3] => { results := [.lit (.bool true)], args := [d1, d2, d3] }
  | _ => none }
def productcodeSoundRow : OpenClaim := { program := "ytepdcpbgdfjobaa", sum := "f1a5eaafe3258c6b85dd22ef022315362b02c4ed769a50c7c056dd7c75073d2e", func := "masterdisc/masterdisclaw08.ProductcodeSound", spec := "productcodeSound", inPlace := ["internal/abi.NoEscape", "internal/bytealg.MakeNoZero"], unfollowed := true, recurses := true, apart := false }
def ProductcodeSoundSaid : Prop := productcodeSoundRow.holds Try.pinned (OpenSpec.ofChange productcodeSoundSpec)

/-- ITS FALSE NEIGHBOUR: 'it returns false'. Refute it at one input. -/
def productcodeSoundWrong : ChangeSpec := { name := "productcodeSound", fn := fun _ => fun
  | [d1, d2, d3] => { results := [.lit (.bool false)], args := [d1, d2, d3] }
  | _ => none }
def ProductcodeSoundWrongFalsely : Prop := productcodeSoundRow.holds Try.pinned (OpenSpec.ofChange productcodeSoundWrong)

/-- 'masterdisclaw08.ProductcodeErasures': WHATEVER THE INPUT: true; the input reads as it did. -/
def productcodeErasuresSpec : ChangeSpec := { name := "productcodeErasures", fn := fun _ => fun
  | [d1, d2, d3, d4] => { results := [.lit (.bool true)], args := [d1, d2, d3, d4] }
  | _ => none }
def productcodeErasuresRow : OpenClaim := { program := "ytepdcpbgdfjobaa", sum := "f1a5eaafe3258c6b85dd22ef022315362b02c4ed769a50c7c056dd7c75073d2e", func := "masterdisc/masterdisclaw08.ProductcodeErasures", spec := "productcodeErasures", inPlace := ["internal/abi.NoEscape", "internal/bytealg.MakeNoZero"], unfollowed := true, recurses := true, apart := false }
def ProductcodeErasuresSaid : Prop := productcodeErasuresRow.holds Try.pinned (OpenSpec.ofChange productcodeErasuresSpec)

/-- ITS FALSE NEIGHBOUR: 'it returns false'. Refute it at one input. -/
def productcodeErasuresWrong : ChangeSpec := { name := "productcodeErasures", fn := fun _ => fun
  | [d1, d2, d3, d4] => { results := [.lit (.bool false)], args := [d1, d2, d3, d4] }
  | _ => none }
def ProductcodeErasuresWrongFalsely : Prop := productcodeErasuresRow.holds Try.pinned (OpenSpec.ofChange productcodeErasuresWrong)

/- THE SECOND FORM. 'bulk': how many values and letters a reading holds, each counted each time it is reached (what is shared counts as often as it is met; a slice's spare places count too). A statement '..UptoSaid' is the law's where the arguments, and the package variables that the reading takes, are together of bulk at most 1048576: NARROWER than '..Said'. Prove '..Said' where nothing that the law and all that it calls make is longer than what came in: it says more and counts as full. Else prove '..UptoSaid'. A law counts once. -/
mutual
def uptoBulk {H : Type} : DataW H → Nat
  | .lit (.string bytes) => bytes.length + 1
  | .lit _ => 1
  | .nil => 1
  | .ptr d => uptoBulk d + 1
  | .slice elems spare => uptoBulkAll elems + uptoBulkAll spare + 1
  | .agg parts => uptoBulkAll parts + 1
  | .iface _ d => uptoBulk d + 1
  | .map entries => uptoBulkEntries entries + 1
  | .held _ => 1
def uptoBulkAll {H : Type} : List (DataW H) → Nat
  | [] => 0
  | d :: r => uptoBulk d + uptoBulkAll r
def uptoBulkEntries {H : Type} : List (Lit × DataW H) → Nat
  | [] => 0
  | x :: r => uptoBulkEntry x + uptoBulkEntries r
def uptoBulkEntry {H : Type} : Lit × DataW H → Nat
  | (.string bytes, d) => bytes.length + uptoBulk d + 1
  | (_, d) => uptoBulk d + 1
 end
def uptoSmall : (H : Type) → List (DataW H) → Bool := fun _ ds => decide (uptoBulkAll ds ≤ 1048576)
def OpenSpec.upto (s : _root_.Go.ChangeSpec) : _root_.Go.OpenSpec := { _root_.Go.OpenSpec.ofChange s with cond := some uptoSmall }

/-- 'masterdisclaw08.ProductcodePartition', WHERE WHAT IT READS IS OF BULK AT MOST 1048576: true; the input reads as it did. -/
def productcodePartitionUptoRow : OpenClaim := { program := "ytepdcpbgdfjobaa", sum := "f1a5eaafe3258c6b85dd22ef022315362b02c4ed769a50c7c056dd7c75073d2e", func := "masterdisc/masterdisclaw08.ProductcodePartition", spec := "productcodePartition", inPlace := ["internal/abi.NoEscape", "internal/bytealg.MakeNoZero"], unfollowed := true, recurses := true, apart := false, narrowed := true }
def ProductcodePartitionUptoSaid : Prop := productcodePartitionUptoRow.holds Try.pinned (OpenSpec.upto productcodePartitionSpec)

/-- 'masterdisclaw08.ProductcodeWords', WHERE WHAT IT READS IS OF BULK AT MOST 1048576: true; the input reads as it did. -/
def productcodeWordsUptoRow : OpenClaim := { program := "ytepdcpbgdfjobaa", sum := "f1a5eaafe3258c6b85dd22ef022315362b02c4ed769a50c7c056dd7c75073d2e", func := "masterdisc/masterdisclaw08.ProductcodeWords", spec := "productcodeWords", inPlace := ["internal/abi.NoEscape", "internal/bytealg.MakeNoZero"], unfollowed := true, recurses := true, apart := false, narrowed := true }
def ProductcodeWordsUptoSaid : Prop := productcodeWordsUptoRow.holds Try.pinned (OpenSpec.upto productcodeWordsSpec)

/-- 'masterdisclaw08.ProductcodeEncodes', WHERE WHAT IT READS IS OF BULK AT MOST 1048576: true; the input reads as it did. -/
def productcodeEncodesUptoRow : OpenClaim := { program := "ytepdcpbgdfjobaa", sum := "f1a5eaafe3258c6b85dd22ef022315362b02c4ed769a50c7c056dd7c75073d2e", func := "masterdisc/masterdisclaw08.ProductcodeEncodes", spec := "productcodeEncodes", inPlace := ["internal/abi.NoEscape", "internal/bytealg.MakeNoZero"], unfollowed := true, recurses := true, apart := false, narrowed := true }
def ProductcodeEncodesUptoSaid : Prop := productcodeEncodesUptoRow.holds Try.pinned (OpenSpec.upto productcodeEncodesSpec)

/-- 'masterdisclaw08.ProductcodeLinear', WHERE WHAT IT READS IS OF BULK AT MOST 1048576: true; the input reads as it did. -/
def productcodeLinearUptoRow : OpenClaim := { program := "ytepdcpbgdfjobaa", sum := "f1a5eaafe3258c6b85dd22ef022315362b02c4ed769a50c7c056dd7c75073d2e", func := "masterdisc/masterdisclaw08.ProductcodeLinear", spec := "productcodeLinear", inPlace := ["internal/abi.NoEscape", "internal/bytealg.MakeNoZero"], unfollowed := true, recurses := true, apart := false, narrowed := true }
def ProductcodeLinearUptoSaid : Prop := productcodeLinearUptoRow.holds Try.pinned (OpenSpec.upto productcodeLinearSpec)

/-- 'masterdisclaw08.ProductcodeBursts', WHERE WHAT IT READS IS OF BULK AT MOST 1048576: true; the input reads as it did. -/
def productcodeBurstsUptoRow : OpenClaim := { program := "ytepdcpbgdfjobaa", sum := "f1a5eaafe3258c6b85dd22ef022315362b02c4ed769a50c7c056dd7c75073d2e", func := "masterdisc/masterdisclaw08.ProductcodeBursts", spec := "productcodeBursts", inPlace := ["internal/abi.NoEscape", "internal/bytealg.MakeNoZero"], unfollowed := true, recurses := true, apart := false, narrowed := true }
def ProductcodeBurstsUptoSaid : Prop := productcodeBurstsUptoRow.holds Try.pinned (OpenSpec.upto productcodeBurstsSpec)

/-- 'masterdisclaw08.ProductcodeErrors', WHERE WHAT IT READS IS OF BULK AT MOST 1048576: true; the input reads as it did. -/
def productcodeErrorsUptoRow : OpenClaim := { program := "ytepdcpbgdfjobaa", sum := "f1a5eaafe3258c6b85dd22ef022315362b02c4ed769a50c7c056dd7c75073d2e", func := "masterdisc/masterdisclaw08.ProductcodeErrors", spec := "productcodeErrors", inPlace := ["internal/abi.NoEscape", "internal/bytealg.MakeNoZero"], unfollowed := true, recurses := true, apart := false, narrowed := true }
def ProductcodeErrorsUptoSaid : Prop := productcodeErrorsUptoRow.holds Try.pinned (OpenSpec.upto productcodeErrorsSpec)

/-- 'masterdisclaw08.ProductcodeSound', WHERE WHAT IT READS IS OF BULK AT MOST 1048576: true; the input reads as it did. -/
def productcodeSoundUptoRow : OpenClaim := { program := "ytepdcpbgdfjobaa", sum := "f1a5eaafe3258c6b85dd22ef022315362b02c4ed769a50c7c056dd7c75073d2e", func := "masterdisc/masterdisclaw08.ProductcodeSound", spec := "productcodeSound", inPlace := ["internal/abi.NoEscape", "internal/bytealg.MakeNoZero"], unfollowed := true, recurses := true, apart := false, narrowed := true }
def ProductcodeSoundUptoSaid : Prop := productcodeSoundUptoRow.holds Try.pinned (OpenSpec.upto productcodeSoundSpec)

/-- 'masterdisclaw08.ProductcodeErasures', WHERE WHAT IT READS IS OF BULK AT MOST 1048576: true; the input reads as it did. -/
def productcodeErasuresUptoRow : OpenClaim := { program := "ytepdcpbgdfjobaa", sum := "f1a5eaafe3258c6b85dd22ef022315362b02c4ed769a50c7c056dd7c75073d2e", func := "masterdisc/masterdisclaw08.ProductcodeErasures", spec := "productcodeErasures", inPlace := ["internal/abi.NoEscape", "internal/bytealg.MakeNoZero"], unfollowed := true, recurses := true, apart := false, narrowed := true }
def ProductcodeErasuresUptoSaid : Prop := productcodeErasuresUptoRow.holds Try.pinned (OpenSpec.upto productcodeErasuresSpec)

end Rows
end Go.Proofs.Ytepdcpbgdfjobaa
