/-
  No cell of these rows narrows 'for every input' (looked for: loops, veiled, ifaces, maps, wideKeys, modest, calm, conditions, laid).
  DERIVED. THE GIVEN ROWS OF THIS SEAT. 7 by the template 'for every input the law returns true; each argument reads behind the call as it read before'; 0 by the template 'total and deterministic' (their statements: YtkebnmmcogkldaaTotals.lean).
  GIVEN WITH THE SEED: the statements are not yours to turn. If you find one false, say at which input.
  Laid BY PROGRAM, IN A SANDBOX (cutbox-rows.mjs): the forced cells as the released guide's own fill.sh prints them over the translation e37c72d4063a415d… (all of the seat's roots in one cut). By AI agents, Wed Nov 11 2026. No macro, syntax, notation, axiom, sorry.
-/
import Derived.Test.YtkebnmmcogkldaaChecked
import GoSem.Claim
import GoSem.ClaimJoined
import GoSem.ClaimMapViews
import Derived.JoinedTies
import Derived.KernelRfl
namespace Go.Proofs.Ytkebnmmcogkldaa
/- THE CELL 'sum', in the pinned program and in every row, IS THE sha256 OF THE DUMP (.gsa) THAT YtkebnmmcogkldaaProg.lean LOADS. Nothing in Lean hashes anything: it is a label: what it is worth is what the hold of that sum in a sandbox is worth. -/
noncomputable def Try.pinned : Pinned := { name := "ytkebnmmcogkldaa", sum := "e37c72d4063a415d545add93911d332c4eab24895512e7855e7e4c483e8a7d34", checked := Try.checked }
namespace Rows
def none {H : Type} : Left H := { results := [], args := [] }

/-- 'masterdisclaw09.CircLoses': WHATEVER THE INPUT: true; the input reads as it did. -/
def circLosesSpec : ChangeSpec := { name := "circLoses", fn := fun _ => fun
  | [d1, d2] => { results := [.lit (.bool true)], args := [d1, d2] }
  | _ => none }
def circLosesRow : OpenClaim := { program := "ytkebnmmcogkldaa", sum := "e37c72d4063a415d545add93911d332c4eab24895512e7855e7e4c483e8a7d34", func := "masterdisc/masterdisclaw09.CircLoses", spec := "circLoses", inPlace := ["internal/abi.NoEscape", "internal/bytealg.MakeNoZero"], unfollowed := true, recurses := true, apart := false }
def CircLosesSaid : Prop := circLosesRow.holds Try.pinned (OpenSpec.ofChange circLosesSpec)

/-- ITS FALSE NEIGHBOUR: 'it returns false'. Refute it at one input. -/
def circLosesWrong : ChangeSpec := { name := "circLoses", fn := fun _ => fun
  | [d1, d2] => { results := [.lit (.bool false)], args := [d1, d2] }
  | _ => none }
def CircLosesWrongFalsely : Prop := circLosesRow.holds Try.pinned (OpenSpec.ofChange circLosesWrong)

/-- 'masterdisclaw09.CircBursts': WHATEVER THE INPUT: true; the input reads as it did. -/
def circBurstsSpec : ChangeSpec := { name := "circBursts", fn := fun _ => fun
  | [d1, d2, d3, d4] => { results := [.lit (.bool true)], args := [d1, d2, d3, d4] }
  | _ => none }
def circBurstsRow : OpenClaim := { program := "ytkebnmmcogkldaa", sum := "e37c72d4063a415d545add93911d332c4eab24895512e7855e7e4c483e8a7d34", func := "masterdisc/masterdisclaw09.CircBursts", spec := "circBursts", inPlace := ["internal/abi.NoEscape", "internal/bytealg.MakeNoZero"], unfollowed := true, recurses := true, apart := false }
def CircBurstsSaid : Prop := circBurstsRow.holds Try.pinned (OpenSpec.ofChange circBurstsSpec)

/-- ITS FALSE NEIGHBOUR: 'it returns false'. Refute it at one input. -/
def circBurstsWrong : ChangeSpec := { name := "circBursts", fn := fun _ => fun
  | [d1, d2, d3, d4] => { results := [.lit (.bool false)], args := [d1, d2, d3, d4] }
  | _ => none }
def CircBurstsWrongFalsely : Prop := circBurstsRow.holds Try.pinned (OpenSpec.ofChange circBurstsWrong)

/-- 'masterdisclaw09.CircEncodes': WHATEVER THE INPUT: true; the input reads as it did. -/
def circEncodesSpec : ChangeSpec := { name := "circEncodes", fn := fun _ => fun
  | [d1, d2, d3] => { results := [.lit (.bool true)], args := [d1, d2, d3] }
  | _ => none }
def circEncodesRow : OpenClaim := { program := "ytkebnmmcogkldaa", sum := "e37c72d4063a415d545add93911d332c4eab24895512e7855e7e4c483e8a7d34", func := "masterdisc/masterdisclaw09.CircEncodes", spec := "circEncodes", inPlace := ["internal/abi.NoEscape", "internal/bytealg.MakeNoZero"], unfollowed := true, recurses := true, apart := false }
def CircEncodesSaid : Prop := circEncodesRow.holds Try.pinned (OpenSpec.ofChange circEncodesSpec)

/-- ITS FALSE NEIGHBOUR: 'it returns false'. Refute it at one input. -/
def circEncodesWrong : ChangeSpec := { name := "circEncodes", fn := fun _ => fun
  | [d1, d2, d3] => { results := [.lit (.bool false)], args := [d1, d2, d3] }
  | _ => none }
def CircEncodesWrongFalsely : Prop := circEncodesRow.holds Try.pinned (OpenSpec.ofChange circEncodesWrong)

/-- 'masterdisclaw09.CircMonotone': WHATEVER THE INPUT: true; the input reads as it did. -/
def circMonotoneSpec : ChangeSpec := { name := "circMonotone", fn := fun _ => fun
  | [d1, d2, d3] => { results := [.lit (.bool true)], args := [d1, d2, d3] }
  | _ => none }
def circMonotoneRow : OpenClaim := { program := "ytkebnmmcogkldaa", sum := "e37c72d4063a415d545add93911d332c4eab24895512e7855e7e4c483e8a7d34", func := "masterdisc/masterdisclaw09.CircMonotone", spec := "circMonotone", inPlace := ["internal/abi.NoEscape", "internal/bytealg.MakeNoZero"], unfollowed := true, recurses := true, apart := false }
def CircMonotoneSaid : Prop := circMonotoneRow.holds Try.pinned (OpenSpec.ofChange circMonotoneSpec)

/-- ITS FALSE NEIGHBOUR: 'it returns false'. Refute it at one input. -/
def circMonotoneWrong : ChangeSpec := { name := "circMonotone", fn := fun _ => fun
  | [d1, d2, d3] => { results := [.lit (.bool false)], args := [d1, d2, d3] }
  | _ => none }
def CircMonotoneWrongFalsely : Prop := circMonotoneRow.holds Try.pinned (OpenSpec.ofChange circMonotoneWrong)

/-- 'masterdisclaw09.CircDecodes': WHATEVER THE INPUT: true; the input reads as it did. -/
def circDecodesSpec : ChangeSpec := { name := "circDecodes", fn := fun _ => fun
  | [d] => { results := [.lit (.bool true)], args := [d] }
  | _ => none }
def circDecodesRow : OpenClaim := { program := "ytkebnmmcogkldaa", sum := "e37c72d4063a415d545add93911d332c4eab24895512e7855e7e4c483e8a7d34", func := "masterdisc/masterdisclaw09.CircDecodes", spec := "circDecodes", inPlace := ["internal/abi.NoEscape", "internal/bytealg.MakeNoZero"], unfollowed := true, recurses := true, apart := false }
def CircDecodesSaid : Prop := circDecodesRow.holds Try.pinned (OpenSpec.ofChange circDecodesSpec)

/-- ITS FALSE NEIGHBOUR: 'it returns false'. Refute it at one input. -/
def circDecodesWrong : ChangeSpec := { name := "circDecodes", fn := fun _ => fun
  | [d] => { results := [.lit (.bool false)], args := [d] }
  | _ => none }
def CircDecodesWrongFalsely : Prop := circDecodesRow.holds Try.pinned (OpenSpec.ofChange circDecodesWrong)

/-- 'masterdisclaw09.CircReturns': WHATEVER THE INPUT: true; the input reads as it did. -/
def circReturnsSpec : ChangeSpec := { name := "circReturns", fn := fun _ => fun
  | [d] => { results := [.lit (.bool true)], args := [d] }
  | _ => none }
def circReturnsRow : OpenClaim := { program := "ytkebnmmcogkldaa", sum := "e37c72d4063a415d545add93911d332c4eab24895512e7855e7e4c483e8a7d34", func := "masterdisc/masterdisclaw09.CircReturns", spec := "circReturns", inPlace := ["internal/abi.NoEscape", "internal/bytealg.MakeNoZero"], unfollowed := true, recurses := true, apart := false }
def CircReturnsSaid : Prop := circReturnsRow.holds Try.pinned (OpenSpec.ofChange circReturnsSpec)

/-- ITS FALSE NEIGHBOUR: 'it returns false'. Refute it at one input. -/
def circReturnsWrong : ChangeSpec := { name := "circReturns", fn := fun _ => fun
  | [d] => { results := [.lit (.bool false)], args := [d] }
  | _ => none }
def CircReturnsWrongFalsely : Prop := circReturnsRow.holds Try.pinned (OpenSpec.ofChange circReturnsWrong)

/-- 'masterdisclaw09.CircScratches': WHATEVER THE INPUT: true; the input reads as it did. -/
def circScratchesSpec : ChangeSpec := { name := "circScratches", fn := fun _ => fun
  | [d1, d2, d3] => { results := [.lit (.bool true)], args := [d1, d2, d3] }
  | _ => none }
def circScratchesRow : OpenClaim := { program := "ytkebnmmcogkldaa", sum := "e37c72d4063a415d545add93911d332c4eab24895512e7855e7e4c483e8a7d34", func := "masterdisc/masterdisclaw09.CircScratches", spec := "circScratches", inPlace := ["internal/abi.NoEscape", "internal/bytealg.MakeNoZero"], unfollowed := true, recurses := true, apart := false }
def CircScratchesSaid : Prop := circScratchesRow.holds Try.pinned (OpenSpec.ofChange circScratchesSpec)

/-- ITS FALSE NEIGHBOUR: 'it returns false'. Refute it at one input. -/
def circScratchesWrong : ChangeSpec := { name := "circScratches", fn := fun _ => fun
  | [d1, d2, d3] => { results := [.lit (.bool false)], args := [d1, d2, d3] }
  | _ => none }
def CircScratchesWrongFalsely : Prop := circScratchesRow.holds Try.pinned (OpenSpec.ofChange circScratchesWrong)

/- THE SECOND FORM. 'bulk': how many values and letters a reading holds, each counted each time it is reached (what is shared counts as often as it is met; a slice's spare places count too). A statement '..UptoSaid' is the law's where the arguments, and the package variables that the reading takes, are together of bulk at most 1048576: NARROWER than '..Said'. Prove '..Said' where nothing that the law and all that it calls make is longer than what came in: it says more and counts as full. Else prove '..UptoSaid'. A law counts once. -/
mutual
def uptoBulk {H : Type} : DataW H → Nat
  | .lit (.string bytes) => bytes.length + 1
  | .lit _ => 1
  | .nil => 1
  | .ptr d => uptoBulk d + 1
  | .slice elems spare => uptoBulkAll elems + uptoBulkAll spare + 1
  | .agg parts => uptoBulkAll parts + 1
  | .iface _ d => uptoBulk d + 1
  | .map entries => uptoBulkEntries entries + 1
  | .held _ => 1
def uptoBulkAll {H : Type} : List (DataW H) → Nat
  | [] => 0
  | d :: r => uptoBulk d + uptoBulkAll r
def uptoBulkEntries {H : Type} : List (Lit × DataW H) → Nat
  | [] => 0
  | x :: r => uptoBulkEntry x + uptoBulkEntries r
def uptoBulkEntry {H : Type} : Lit × DataW H → Nat
  | (.string bytes, d) => bytes.length + uptoBulk d + 1
  | (_, d) => uptoBulk d + 1
 end
def uptoSmall : (H : Type) → List (DataW H) → Bool := fun _ ds => decide (uptoBulkAll ds ≤ 1048576)
def OpenSpec.upto (s : _root_.Go.ChangeSpec) : _root_.Go.OpenSpec := { _root_.Go.OpenSpec.ofChange s with cond := some uptoSmall }

/-- 'masterdisclaw09.CircLoses', WHERE WHAT IT READS IS OF BULK AT MOST 1048576: true; the input reads as it did. -/
def circLosesUptoRow : OpenClaim := { program := "ytkebnmmcogkldaa", sum := "e37c72d4063a415d545add93911d332c4eab24895512e7855e7e4c483e8a7d34", func := "masterdisc/masterdisclaw09.CircLoses", spec := "circLoses", inPlace := ["internal/abi.NoEscape", "internal/bytealg.MakeNoZero"], unfollowed := true, recurses := true, apart := false, narrowed := true }
def CircLosesUptoSaid : Prop := circLosesUptoRow.holds Try.pinned (OpenSpec.upto circLosesSpec)

/-- 'masterdisclaw09.CircBursts', WHERE WHAT IT READS IS OF BULK AT MOST 1048576: true; the input reads as it did. -/
def circBurstsUptoRow : OpenClaim := { program := "ytkebnmmcogkldaa", sum := "e37c72d4063a415d545add93911d332c4eab24895512e7855e7e4c483e8a7d34", func := "masterdisc/masterdisclaw09.CircBursts", spec := "circBursts", inPlace := ["internal/abi.NoEscape", "internal/bytealg.MakeNoZero"], unfollowed := true, recurses := true, apart := false, narrowed := true }
def CircBurstsUptoSaid : Prop := circBurstsUptoRow.holds Try.pinned (OpenSpec.upto circBurstsSpec)

/-- 'masterdisclaw09.CircEncodes', WHERE WHAT IT READS IS OF BULK AT MOST 1048576: true; the input reads as it did. -/
def circEncodesUptoRow : OpenClaim := { program := "ytkebnmmcogkldaa", sum := "e37c72d4063a415d545add93911d332c4eab24895512e7855e7e4c483e8a7d34", func := "masterdisc/masterdisclaw09.CircEncodes", spec := "circEncodes", inPlace := ["internal/abi.NoEscape", "internal/bytealg.MakeNoZero"], unfollowed := true, recurses := true, apart := false, narrowed := true }
def CircEncodesUptoSaid : Prop := circEncodesUptoRow.holds Try.pinned (OpenSpec.upto circEncodesSpec)

/-- 'masterdisclaw09.CircMonotone', WHERE WHAT IT READS IS OF BULK AT MOST 1048576: true; the input reads as it did. -/
def circMonotoneUptoRow : OpenClaim := { program := "ytkebnmmcogkldaa", sum := "e37c72d4063a415d545add93911d332c4eab24895512e7855e7e4c483e8a7d34", func := "masterdisc/masterdisclaw09.CircMonotone", spec := "circMonotone", inPlace := ["internal/abi.NoEscape", "internal/bytealg.MakeNoZero"], unfollowed := true, recurses := true, apart := false, narrowed := true }
def CircMonotoneUptoSaid : Prop := circMonotoneUptoRow.holds Try.pinned (OpenSpec.upto circMonotoneSpec)

/-- 'masterdisclaw09.CircDecodes', WHERE WHAT IT READS IS OF BULK AT MOST 1048576: true; the input reads as it did. -/
def circDecodesUptoRow : OpenClaim := { program := "ytkebnmmcogkldaa", sum := "e37c72d4063a415d545add93911d332c4eab24895512e7855e7e4c483e8a7d34", func := "masterdisc/masterdisclaw09.CircDecodes", spec := "circDecodes", inPlace := ["internal/abi.NoEscape", "internal/bytealg.MakeNoZero"], unfollowed := true, recurses := true, apart := false, narrowed := true }
def CircDecodesUptoSaid : Prop := circDecodesUptoRow.holds Try.pinned (OpenSpec.upto circDecodesSpec)

/-- 'masterdisclaw09.CircReturns', WHERE WHAT IT READS IS OF BULK AT MOST 1048576: true; the input reads as it did. -/
def circReturnsUptoRow : OpenClaim := { program := "ytkebnmmcogkldaa", sum := "e37c72d4063a415d545add93911d332c4eab24895512e7855e7e4c483e8a7d34", func := "masterdisc/masterdisclaw09.CircReturns", spec := "circReturns", inPlace := ["internal/abi.NoEscape", "internal/bytealg.MakeNoZero"], unfollowed := true, recurses := true, apart := false, narrowed := true }
def CircReturnsUptoSaid : Prop := circReturnsUptoRow.holds Try.pinned (OpenSpec.upto circReturnsSpec)

/-- 'masterdisclaw09.CircScratches', WHERE WHAT IT READS IS OF BULK AT MOST 1048576: true; the input reads as it did. -/
def circScratchesUptoRow : OpenClaim := { program := "ytkebnmmcogkldaa", sum := "e37c72d4063a415d545add93911d332c4eab24895512e7855e7e4c483e8a7d34", func := "masterdisc/masterdisclaw09.CircScratches", spec := "circScratches", inPlace := ["internal/abi.NoEscape", "internal/bytealg.MakeNoZero"], unfollowed := true, recurses := true, apart := false, narrowed := true }
def CircScratchesUptoSaid : Prop := circScratchesUptoRow.holds Try.pinned (OpenSpec.upto circScratchesSpec)

end Rows
end Go.Proofs.Ytkebnmmcogkldaa
