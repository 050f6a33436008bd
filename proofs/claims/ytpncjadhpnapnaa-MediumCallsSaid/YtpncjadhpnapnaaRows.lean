/-
  No cell of these rows narrows 'for every input' (looked for: loops, veiled, ifaces, maps, wideKeys, modest, calm, conditions, laid).
  DERIVED. THE GIVEN ROWS OF THIS SEAT. 5 by the template 'for every input the law returns true; each argument reads behind the call as it read before'; 0 by the template 'total and deterministic' (their statements: YtpncjadhpnapnaaTotals.lean).
  GIVEN WITH THE SEED: the statements are not yours to turn. If you find one false, say at which input.
  Laid BY PROGRAM, IN A SANDBOX (cutbox-rows.mjs): the forced cells as the released guide's own fill.sh prints them over the translation ebe85c1145994682… (all of the seat's roots in one cut). By AI agents, Wed Nov 11 2026. No macro, syntax, notation, axiom, sorry.
-/
import Derived.Test.YtpncjadhpnapnaaChecked
import GoSem.Claim
import GoSem.ClaimJoined
import GoSem.ClaimMapViews
import Derived.JoinedTies
import Derived.KernelRfl
namespace Go.Proofs.Ytpncjadhpnapnaa
/- THE CELL 'sum', in the pinned program and in every row, IS THE sha256 OF THE DUMP (.gsa) THAT YtpncjadhpnapnaaProg.lean LOADS. Nothing in Lean hashes anything: it is a label: what it is worth is what the hold of that sum in a sandbox is worth. -/
noncomputable def Try.pinned : Pinned := { name := "ytpncjadhpnapnaa", sum := "ebe85c1145994682c4eecdcbcc7c2688b81755bfe562557c26ad58c9737286c0", checked := Try.checked }
namespace Rows
def none {H : Type} : Left H := { results := [], args := [] }

/-- 'masterdisclaw12.MediumScratches': WHATEVER THE INPUT: true; the input reads as it did. -/
def mediumScratchesSpec : ChangeSpec := { name := "mediumScratches", fn := fun _ => fun
  | [d1, d2] => { results := [.lit (.bool true)], args := [d1, d2] }
  | _ => none }
def mediumScratchesRow : OpenClaim := { program := "ytpncjadhpnapnaa", sum := "ebe85c1145994682c4eecdcbcc7c2688b81755bfe562557c26ad58c9737286c0", func := "masterdisc/masterdisclaw12.MediumScratches", spec := "mediumScratches", inPlace := ["internal/abi.NoEscape", "internal/bytealg.MakeNoZero"], unfollowed := true, recurses := true, apart := false }
def MediumScratchesSaid : Prop := mediumScratchesRow.holds Try.pinned (OpenSpec.ofChange mediumScratchesSpec)

/-- ITS FALSE NEIGHBOUR: 'it returns false'. Refute it at one input. -/
def mediumScratchesWrong : ChangeSpec := { name := "mediumScratches", fn := fun _ => fun
  | [d1, d2] => { results := [.lit (.bool false)], args := [d1, d2] }
  | _ => none }
def MediumScratchesWrongFalsely : Prop := mediumScratchesRow.holds Try.pinned (OpenSpec.ofChange mediumScratchesWrong)

/-- 'masterdisclaw12.MediumWears': WHATEVER THE INPUT: true; the input reads as it did. -/
def mediumWearsSpec : ChangeSpec := { name := "mediumWears", fn := fun _ => fun
  | [d1, d2, d3] => { results := [.lit (.bool true)], args := [d1, d2, d3] }
  | _ => none }
def mediumWearsRow : OpenClaim := { program := "ytpncjadhpnapnaa", sum := "ebe85c1145994682c4eecdcbcc7c2688b81755bfe562557c26ad58c9737286c0", func := "masterdisc/masterdisclaw12.MediumWears", spec := "mediumWears", inPlace := ["internal/abi.NoEscape", "internal/bytealg.MakeNoZero"], unfollowed := true, recurses := true, apart := false }
def MediumWearsSaid : Prop := mediumWearsRow.holds Try.pinned (OpenSpec.ofChange mediumWearsSpec)

/-- ITS FALSE NEIGHBOUR: 'it returns false'. Refute it at one input. -/
def mediumWearsWrong : ChangeSpec := { name := "mediumWears", fn := fun _ => fun
  | [d1, d2, d3] => { results := [.lit (.bool false)], args := [d1, d2, d3] }
  | _ => none }
def MediumWearsWrongFalsely : Prop := mediumWearsRow.holds Try.pinned (OpenSpec.ofChange mediumWearsWrong)

/-- 'masterdisclaw12.MediumHeals': WHATEVER THE INPUT: true; the input reads as it did. -/
def mediumHealsSpec : ChangeSpec := { name := "mediumHeals", fn := fun _ => fun
  | [d1, d2, d3] => { results := [.lit (.bool true)], args := [d1, d2, d3] }
  | _ => none }
def mediumHealsRow : OpenClaim := { program := "ytpncjadhpnapnaa", sum := "ebe85c1145994682c4eecdcbcc7c2688b81755bfe562557c26ad58c9737286c0", func := "masterdisc/masterdisclaw12.MediumHeals", spec := "mediumHeals", inPlace := ["internal/abi.NoEscape", "internal/bytealg.MakeNoZero"], unfollowed := true, recurses := true, apart := false }
def MediumHealsSaid : Prop := mediumHealsRow.holds Try.pinned (OpenSpec.ofChange mediumHealsSpec)

/-- ITS FALSE NEIGHBOUR: 'it returns false'. Refute it at one input. -/
def mediumHealsWrong : ChangeSpec := { name := "mediumHeals", fn := fun _ => fun
  | [d1, d2, d3] => { results := [.lit (.bool false)], args := [d1, d2, d3] }
  | _ => none }
def MediumHealsWrongFalsely : Prop := mediumHealsRow.holds Try.pinned (OpenSpec.ofChange mediumHealsWrong)

/-- 'masterdisclaw12.MediumCalls': WHATEVER THE INPUT: true; the input reads as it did. -/
def mediumCallsSpec : ChangeSpec := { name := "mediumCalls", fn := fun _ => fun
  | [d1, d2, d3, d4] => { results := [.lit (.bool true)], args := [d1, d2, d3, d4] }
  | _ => none }
def mediumCallsRow : OpenClaim := { program := "ytpncjadhpnapnaa", sum := "ebe85c1145994682c4eecdcbcc7c2688b81755bfe562557c26ad58c9737286c0", func := "masterdisc/masterdisclaw12.MediumCalls", spec := "mediumCalls", inPlace := ["internal/abi.NoEscape", "internal/bytealg.MakeNoZero"], unfollowed := true, recurses := true, apart := false }
def MediumCallsSaid : Prop := mediumCallsRow.holds Try.pinned (OpenSpec.ofChange mediumCallsSpec)

/-- ITS FALSE NEIGHBOUR: 'it returns false'. Refute it at one input. -/
def mediumCallsWrong : ChangeSpec := { name := "mediumCalls", fn := fun _ => fun
  | [d1, d2, d3, d4] => { results := [.lit (.bool false)], args := [d1, d2, d3, d4] }
  | _ => none }
def MediumCallsWrongFalsely : Prop := mediumCallsRow.holds Try.pinned (OpenSpec.ofChange mediumCallsWrong)

/-- 'masterdisclaw12.MediumClones': WHATEVER THE INPUT: true; the input reads as it did. -/
def mediumClonesSpec : ChangeSpec := { name := "mediumClones", fn := fun _ => fun
  | [d1, d2, d3, d4] => { results := [.lit (.bool true)], args := [d1, d2, d3, d4] }
  | _ => none }
def mediumClonesRow : OpenClaim := { program := "ytpncjadhpnapnaa", sum := "ebe85c1145994682c4eecdcbcc7c2688b81755bfe562557c26ad58c9737286c0", func := "masterdisc/masterdisclaw12.MediumClones", spec := "mediumClones", inPlace := ["internal/abi.NoEscape", "internal/bytealg.MakeNoZero", "maps.clone"], unfollowed := true, recurses := true, apart := false }
def MediumClonesSaid : Prop := mediumClonesRow.holds Try.pinned (OpenSpec.ofChange mediumClonesSpec)

/-- ITS FALSE NEIGHBOUR: 'it returns false'. Refute it at one input. -/
def mediumClonesWrong : ChangeSpec := { name := "mediumClones", fn := fun _ => fun
  | [d1, d2, d3, d4] => { results := [.lit (.bool false)], args := [d1, d2, d3, d4] }
  | _ => none }
def MediumClonesWrongFalsely : Prop := mediumClonesRow.holds Try.pinned (OpenSpec.ofChange mediumClonesWrong)

/- THE SECOND FORM. 'bulk': how many values and letters a reading holds, each counted each time it is reached (what is shared counts as often as it is met; a slice's spare places count too). A statement '..UptoSaid' is the law's where the arguments, and the package variables that the reading takes, are together of bulk at most 1048576: NARROWER than '..Said'. Prove '..Said' where nothing that the law and all that it calls make is longer than what came in: it says more and counts as full. Else prove '..UptoSaid'. A law counts once. -/
mutual
def uptoBulk {H : Type} : DataW H → Nat
  | .lit (.string bytes) => bytes.length + 1
  | .lit _ => 1
  | .nil => 1
  | .ptr d => uptoBulk d + 1
  | .slice elems spare => uptoBulkAll elems + uptoBulkAll spare + 1
  | .agg parts => uptoBulkAll parts + 1
  | .iface _ d => uptoBulk d + 1
  | .map entries => uptoBulkEntries entries + 1
  | .held _ => 1
def uptoBulkAll {H : Type} : List (DataW H) → Nat
  | [] => 0
  | d :: r => uptoBulk d + uptoBulkAll r
def uptoBulkEntries {H : Type} : List (Lit × DataW H) → Nat
  | [] => 0
  | x :: r => uptoBulkEntry x + uptoBulkEntries r
def uptoBulkEntry {H : Type} : Lit × DataW H → Nat
  | (.string bytes, d) => bytes.length + uptoBulk d + 1
  | (_, d) => uptoBulk d + 1
 end
def uptoSmall : (H : Type) → List (DataW H) → Bool := fun _ ds => decide (uptoBulkAll ds ≤ 1048576)
def OpenSpec.upto (s : _root_.Go.ChangeSpec) : _root_.Go.OpenSpec := { _root_.Go.OpenSpec.ofChange s with cond := some uptoSmall }

/-- 'masterdisclaw12.MediumScratches', WHERE WHAT IT READS IS OF BULK AT MOST 1048576: true; the input reads as it did. -/
def mediumScratchesUptoRow : OpenClaim := { program := "ytpncjadhpnapnaa", sum := "ebe85c1145994682c4eecdcbcc7c2688b81755bfe562557c26ad58c9737286c0", func := "masterdisc/masterdisclaw12.MediumScratches", spec := "mediumScratches", inPlace := ["internal/abi.NoEscape", "internal/bytealg.MakeNoZero"], unfollowed := true, recurses := true, apart := false, narrowed := true }
def MediumScratchesUptoSaid : Prop := mediumScratchesUptoRow.holds Try.pinned (OpenSpec.upto mediumScratchesSpec)

/-- 'masterdisclaw12.MediumWears', WHERE WHAT IT READS IS OF BULK AT MOST 1048576: true; the input reads as it did. -/
def mediumWearsUptoRow : OpenClaim := { program := "ytpncjadhpnapnaa", sum := "ebe85c1145994682c4eecdcbcc7c2688b81755bfe562557c26ad58c9737286c0", func := "masterdisc/masterdisclaw12.MediumWears", spec := "mediumWears", inPlace := ["internal/abi.NoEscape", "internal/bytealg.MakeNoZero"], unfollowed := true, recurses := true, apart := false, narrowed := true }
def MediumWearsUptoSaid : Prop := mediumWearsUptoRow.holds Try.pinned (OpenSpec.upto mediumWearsSpec)

/-- 'masterdisclaw12.MediumHeals', WHERE WHAT IT READS IS OF BULK AT MOST 1048576: true; the input reads as it did. -/
def mediumHealsUptoRow : OpenClaim := { program := "ytpncjadhpnapnaa", sum := "ebe85c1145994682c4eecdcbcc7c2688b81755bfe562557c26ad58c9737286c0", func := "masterdisc/masterdisclaw12.MediumHeals", spec := "mediumHeals", inPlace := ["internal/abi.NoEscape", "internal/bytealg.MakeNoZero"], unfollowed := true, recurses := true, apart := false, narrowed := true }
def MediumHealsUptoSaid : Prop := mediumHealsUptoRow.holds Try.pinned (OpenSpec.upto mediumHealsSpec)

/-- 'masterdisclaw12.MediumCalls', WHERE WHAT IT READS IS OF BULK AT MOST 1048576: true; the input reads as it did. -/
def mediumCallsUptoRow : OpenClaim := { program := "ytpncjadhpnapnaa", sum := "ebe85c1145994682c4eecdcbcc7c2688b81755bfe562557c26ad58c9737286c0", func := "masterdisc/masterdisclaw12.MediumCalls", spec := "mediumCalls", inPlace := ["internal/abi.NoEscape", "internal/bytealg.MakeNoZero"], unfollowed := true, recurses := true, apart := false, narrowed := true }
def MediumCallsUptoSaid : Prop := mediumCallsUptoRow.holds Try.pinned (OpenSpec.upto mediumCallsSpec)

/-- 'masterdisclaw12.MediumClones', WHERE WHAT IT READS IS OF BULK AT MOST 1048576: true; the input reads as it did. -/
def mediumClonesUptoRow : OpenClaim := { program := "ytpncjadhpnapnaa", sum := "ebe85c1145994682c4eecdcbcc7c2688b81755bfe562557c26ad58c9737286c0", func := "masterdisc/masterdisclaw12.MediumClones", spec := "mediumClones", inPlace := ["internal/abi.NoEscape", "internal/bytealg.MakeNoZero", "maps.clone"], unfollowed := true, recurses := true, apart := false, narrowed := true }
def MediumClonesUptoSaid : Prop := mediumClonesUptoRow.holds Try.pinned (OpenSpec.upto mediumClonesSpec)

end Rows
end Go.Proofs.Ytpncjadhpnapnaa
