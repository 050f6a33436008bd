/-
  No cell of these rows narrows 'for every input' (looked for: loops, veiled, ifaces, maps, wideKeys, modest, calm, conditions, laid).
  DERIVED. THE GIVEN ROWS OF THIS SEAT. 6 by the template 'for every input the law returns true; each argument reads behind the call as it read before'; 0 by the template 'total and deterministic' (their statements: YtfnehkmhcmkhjaaGreatTotals.lean).
  GIVEN WITH THE SEED: the statements are not yours to turn. If you find one false, say at which input.
  Laid BY PROGRAM, IN A SANDBOX (cutbox-rows.mjs): the forced cells as the released guide's own fill.sh prints them over the translation 1965998e8be77bb3… (all of the seat's roots in one cut). By AI agents, Wed Nov 11 2026. No macro, syntax, notation, axiom, sorry.
-/
import Derived.Test.YtfnehkmhcmkhjaaGreatChecked
import GoSem.Claim
import GoSem.ClaimJoined
import GoSem.ClaimMapViews
import Derived.JoinedTies
import Derived.KernelRfl
namespace Go.Proofs.YtfnehkmhcmkhjaaGreat
/- THE CELL 'sum', in the pinned program and in every row, IS THE sha256 OF THE DUMP (.gsa) THAT YtfnehkmhcmkhjaaGreatProg.lean LOADS. Nothing in Lean hashes anything: it is a label: what it is worth is what the hold of that sum in a sandbox is worth. -/
noncomputable def Tryz.pinned : Pinned := { name := "ytfnehkmhcmkhjaagreat", sum := "1965998e8be77bb338d69c397f2734d4ab4e750cd193e5440a592e6c98b8aeaa", checked := Tryz.checked }
namespace Rows
def none {H : Type} : Left H := { results := [], args := [] }

/-- 'masterdisclaw15.DriveWritesOnce': WHATEVER THE INPUT: true; the input reads as it did. -/
def driveWritesOnceSpec : ChangeSpec := { name := "driveWritesOnce", fn := fun _ => fun
  | [d1, d2] => { results := [.lit (.bool true)], args := [d1, d2] }
  | _ => none }
def driveWritesOnceRow : OpenClaim := { program := "ytfnehkmhcmkhjaagreat", sum := "1965998e8be77bb338d69c397f2734d4ab4e750cd193e5440a592e6c98b8aeaa", func := "masterdisc/masterdisclaw15.DriveWritesOnce", spec := "driveWritesOnce", inPlace := ["internal/abi.NoEscape", "internal/bytealg.MakeNoZero"], unfollowed := true, recurses := true, apart := false }
def DriveWritesOnceSaid : Prop := driveWritesOnceRow.holds Tryz.pinned (OpenSpec.ofChange driveWritesOnceSpec)

/-- ITS FALSE NEIGHBOUR: 'it returns false'. Refute it at one input. -/
def driveWritesOnceWrong : ChangeSpec := { name := "driveWritesOnce", fn := fun _ => fun
  | [d1, d2] => { results := [.lit (.bool false)], args := [d1, d2] }
  | _ => none }
def DriveWritesOnceWrongFalsely : Prop := driveWritesOnceRow.holds Tryz.pinned (OpenSpec.ofChange driveWritesOnceWrong)

/-- 'masterdisclaw15.DriveSyncs': WHATEVER THE INPUT: true; the input reads as it did. -/
def driveSyncsSpec : ChangeSpec := { name := "driveSyncs", fn := fun _ => fun
  | [d1, d2, d3, d4, d5] => { results := [.lit (.bool true)], args := [d1, d2, d3, d4, d5] }
  | _ => none }
def driveSyncsRow : OpenClaim := { program := "ytfnehkmhcmkhjaagreat", sum := "1965998e8be77bb338d69c397f2734d4ab4e750cd193e5440a592e6c98b8aeaa", func := "masterdisc/masterdisclaw15.DriveSyncs", spec := "driveSyncs", inPlace := ["internal/abi.NoEscape", "internal/bytealg.MakeNoZero"], unfollowed := true, recurses := true, apart := false }
def DriveSyncsSaid : Prop := driveSyncsRow.holds Tryz.pinned (OpenSpec.ofChange driveSyncsSpec)

/-- ITS FALSE NEIGHBOUR: 'it returns false'. Refute it at one input. -/
def driveSyncsWrong : ChangeSpec := { name := "driveSyncs", fn := fun _ => fun
  | [d1, d2, d3, d4, d5] => { results := [.lit (.bool false)], args := [d1, d2, d3, d4, d5] }
  | _ => none }
def DriveSyncsWrongFalsely : Prop := driveSyncsRow.holds Tryz.pinned (OpenSpec.ofChange driveSyncsWrong)

/-- 'masterdisclaw15.DrivePrefix': WHATEVER THE INPUT: true; the input reads as it did. -/
def drivePrefixSpec : ChangeSpec := { name := "drivePrefix", fn := fun _ => fun
  | [d1, d2, d3, d4, d5, d6] => { results := [.lit (.bool true)], args := [d1, d2, d3, d4, d5, d6] }
  | _ => none }
def drivePrefixRow : OpenClaim := { program := "ytfnehkmhcmkhjaagreat", sum := "1965998e8be77bb338d69c397f2734d4ab4e750cd193e5440a592e6c98b8aeaa", func := "masterdisc/masterdisclaw15.DrivePrefix", spec := "drivePrefix", inPlace := ["internal/abi.NoEscape", "internal/bytealg.MakeNoZero"], unfollowed := true, recurses := true, apart := false }
def DrivePrefixSaid : Prop := drivePrefixRow.holds Tryz.pinned (OpenSpec.ofChange drivePrefixSpec)

/-- ITS FALSE NEIGHBOUR: 'it returns false'. Refute it at one input. -/
def drivePrefixWrong : ChangeSpec := { name := "drivePrefix", fn := fun _ => fun
  | [d1, d2, d3, d4, d5, d6] => { results := [.lit (.bool false)], args := [d1, d2, d3, d4, d5, d6] }
  | _ => none }
def DrivePrefixWrongFalsely : Prop := drivePrefixRow.holds Tryz.pinned (OpenSpec.ofChange drivePrefixWrong)

/-- 'masterdisclaw15.DriveReplaces': WHATEVER THE INPUT: true; the input reads as it did. -/
def driveReplacesSpec : ChangeSpec := { name := "driveReplaces", fn := fun _ => fun
  | [d1, d2, d3, d4] => { results := [.lit (.bool true)], args := [d1, d2, d3, d4] }
  | _ => none }
def driveReplacesRow : OpenClaim := { program := "ytfnehkmhcmkhjaagreat", sum := "1965998e8be77bb338d69c397f2734d4ab4e750cd193e5440a592e6c98b8aeaa", func := "masterdisc/masterdisclaw15.DriveReplaces", spec := "driveReplaces", inPlace := ["internal/abi.NoEscape", "internal/bytealg.MakeNoZero"], unfollowed := true, recurses := true, apart := false }
def DriveReplacesSaid : Prop := driveReplacesRow.holds Tryz.pinned (OpenSpec.ofChange driveReplacesSpec)

/-- ITS FALSE NEIGHBOUR: 'it returns false'. Refute it at one input. -/
def driveReplacesWrong : ChangeSpec := { name := "driveReplaces", fn := fun _ => fun
  | [d1, d2, d3, d4] => { results := [.lit (.bool false)], args := [d1, d2, d3, d4] }
  | _ => none }
def DriveReplacesWrongFalsely : Prop := driveReplacesRow.holds Tryz.pinned (OpenSpec.ofChange driveReplacesWrong)

/-- 'masterdisclaw15.DriveCorrects': WHATEVER THE INPUT: true; the input reads as it did. -/
def driveCorrectsSpec : ChangeSpec := { name := "driveCorrects", fn := fun _ => fun
  | [d1, d2, d3, d4] => { results := [.lit (.bool true)], args := [d1, d2, d3, d4] }
  | _ => none }
def driveCorrectsRow : OpenClaim := { program := "ytfnehkmhcmkhjaagreat", sum := "1965998e8be77bb338d69c397f2734d4ab4e750cd193e5440a592e6c98b8aeaa", func := "masterdisc/masterdisclaw15.DriveCorrects", spec := "driveCorrects", inPlace := ["internal/abi.NoEscape", "internal/bytealg.MakeNoZero"], unfollowed := true, recurses := true, apart := false }
def DriveCorrectsSaid : Prop := driveCorrectsRow.holds Tryz.pinned (OpenSpec.ofChange driveCorrectsSpec)

/-- ITS FALSE NEIGHBOUR: 'it returns false'. Refute it at one input. -/
def driveCorrectsWrong : ChangeSpec := { name := "driveCorrects", fn := fun _ => fun
  | [d1, d2, d3, d4] => { results := [.lit (.bool false)], args := [d1, d2, d3, d4] }
  | _ => none }
def DriveCorrectsWrongFalsely : Prop := driveCorrectsRow.holds Tryz.pinned (OpenSpec.ofChange driveCorrectsWrong)

/-- 'masterdisclaw15.DriveRaws': WHATEVER THE INPUT: true; the input reads as it did. -/
def driveRawsSpec : ChangeSpec := { name := "driveRaws", fn := fun _ => fun
  | [d1, d2, d3, d4, d5, d6, d7] => { results := [.lit (.bool true)], args := [d1, d2, d3, d4, d5, d6, d7] }
  | _ => none }
def driveRawsRow : OpenClaim := { program := "ytfnehkmhcmkhjaagreat", sum := "1965998e8be77bb338d69c397f2734d4ab4e750cd193e5440a592e6c98b8aeaa", func := "masterdisc/masterdisclaw15.DriveRaws", spec := "driveRaws", inPlace := ["internal/abi.NoEscape", "internal/bytealg.MakeNoZero", "maps.clone"], unfollowed := true, recurses := true, apart := false }
def DriveRawsSaid : Prop := driveRawsRow.holds Tryz.pinned (OpenSpec.ofChange driveRawsSpec)

/-- ITS FALSE NEIGHBOUR: 'it returns false'. Refute it at one input. -/
def driveRawsWrong : ChangeSpec := { name := "driveRaws", fn := fun _ => fun
  | [d1, d2, d3, d4, d5, d6, d7] => { results := [.lit (.bool false)], args := [d1, d2, d3, d4, d5, d6, d7] }
  | _ => none }
def DriveRawsWrongFalsely : Prop := driveRawsRow.holds Tryz.pinned (OpenSpec.ofChange driveRawsWrong)

/- THE SECOND FORM. 'bulk': how many values and letters a reading holds, each counted each time it is reached (what is shared counts as often as it is met; a slice's spare places count too). A statement '..UptoSaid' is the law's where the arguments, and the package variables that the reading takes, are together of bulk at most 1048576: NARROWER than '..Said'. Prove '..Said' where nothing that the law and all that it calls make is longer than what came in: it says more and counts as full. Else prove '..UptoSaid'. A law counts once. -/
mutual
def uptoBulk {H : Type} : DataW H → Nat
  | .lit (.string bytes) => bytes.length + 1
  | .lit _ => 1
  | .nil => 1
  | .ptr d => uptoBulk d + 1
  | .slice elems spare => uptoBulkAll elems + uptoBulkAll spare + 1
  | .agg parts => uptoBulkAll parts + 1
  | .iface _ d => uptoBulk d + 1
  | .map entries => uptoBulkEntries entries + 1
  | .held _ => 1
def uptoBulkAll {H : Type} : List (DataW H) → Nat
  | [] => 0
  | d :: r => uptoBulk d + uptoBulkAll r
def uptoBulkEntries {H : Type} : List (Lit × DataW H) → Nat
  | [] => 0
  | x :: r => uptoBulkEntry x + uptoBulkEntries r
def uptoBulkEntry {H : Type} : Lit × DataW H → Nat
  | (.string bytes, d) => bytes.length + uptoBulk d + 1
  | (_, d) => uptoBulk d + 1
 end
def uptoSmall : (H : Type) → List (DataW H) → Bool := fun _ ds => decide (uptoBulkAll ds ≤ 1048576)
def OpenSpec.upto (s : _root_.Go.ChangeSpec) : _root_.Go.OpenSpec := { _root_.Go.OpenSpec.ofChange s with cond := some uptoSmall }

/-- 'masterdisclaw15.DriveWritesOnce', WHERE WHAT IT READS IS OF BULK AT MOST 1048576: true; the input reads as it did. -/
def driveWritesOnceUptoRow : OpenClaim := { program := "ytfnehkmhcmkhjaagreat", sum := "1965998e8be77bb338d69c397f2734d4ab4e750cd193e5440a592e6c98b8aeaa", func := "masterdisc/masterdisclaw15.DriveWritesOnce", spec := "driveWritesOnce", inPlace := ["internal/abi.NoEscape", "internal/bytealg.MakeNoZero"], unfollowed := true, recurses := true, apart := false, narrowed := true }
def DriveWritesOnceUptoSaid : Prop := driveWritesOnceUptoRow.holds Tryz.pinned (OpenSpec.upto driveWritesOnceSpec)

/-- 'masterdisclaw15.DriveSyncs', WHERE WHAT IT READS IS OF BULK AT MOST 1048576: true; the input reads as it did. -/
def driveSyncsUptoRow : OpenClaim := { program := "ytfnehkmhcmkhjaagreat", sum := "1965998e8be77bb338d69c397f2734d4ab4e750cd193e5440a592e6c98b8aeaa", func := "masterdisc/masterdisclaw15.DriveSyncs", spec := "driveSyncs", inPlace := ["internal/abi.NoEscape", "internal/bytealg.MakeNoZero"], unfollowed := true, recurses := true, apart := false, narrowed := true }
def DriveSyncsUptoSaid : Prop := driveSyncsUptoRow.holds Tryz.pinned (OpenSpec.upto driveSyncsSpec)

/-- 'masterdisclaw15.DrivePrefix', WHERE WHAT IT READS IS OF BULK AT MOST 1048576: true; the input reads as it did. -/
def drivePrefixUptoRow : OpenClaim := { program := "ytfnehkmhcmkhjaagreat", sum := "1965998e8be77bb338d69c397f2734d4ab4e750cd193e5440a592e6c98b8aeaa", func := "masterdisc/masterdisclaw15.DrivePrefix", spec := "drivePrefix", inPlace := ["internal/abi.NoEscape", "internal/bytealg.MakeNoZero"], unfollowed := true, recurses := true, apart := false, narrowed := true }
def DrivePrefixUptoSaid : Prop := drivePrefixUptoRow.holds Tryz.pinned (OpenSpec.upto drivePrefixSpec)

/-- 'masterdisclaw15.DriveReplaces', WHERE WHAT IT READS IS OF BULK AT MOST 1048576: true; the input reads as it did. -/
def driveReplacesUptoRow : OpenClaim := { program := "ytfnehkmhcmkhjaagreat", sum := "1965998e8be77bb338d69c397f2734d4ab4e750cd193e5440a592e6c98b8aeaa", func := "masterdisc/masterdisclaw15.DriveReplaces", spec := "driveReplaces", inPlace := ["internal/abi.NoEscape", "internal/bytealg.MakeNoZero"], unfollowed := true, recurses := true, apart := false, narrowed := true }
def DriveReplacesUptoSaid : Prop := driveReplacesUptoRow.holds Tryz.pinned (OpenSpec.upto driveReplacesSpec)

/-- 'masterdisclaw15.DriveCorrects', WHERE WHAT IT READS IS OF BULK AT MOST 1048576: true; the input reads as it did. -/
def driveCorrectsUptoRow : OpenClaim := { program := "ytfnehkmhcmkhjaagreat", sum := "1965998e8be77bb338d69c397f2734d4ab4e750cd193e5440a592e6c98b8aeaa", func := "masterdisc/masterdisclaw15.DriveCorrects", spec := "driveCorrects", inPlace := ["internal/abi.NoEscape", "internal/bytealg.MakeNoZero"], unfollowed := true, recurses := true, apart := false, narrowed := true }
def DriveCorrectsUptoSaid : Prop := driveCorrectsUptoRow.holds Tryz.pinned (OpenSpec.upto driveCorrectsSpec)

/-- 'masterdisclaw15.DriveRaws', WHERE WHAT IT READS IS OF BULK AT MOST 1048576: true; the input reads as it did. -/
def driveRawsUptoRow : OpenClaim := { program := "ytfnehkmhcmkhjaagreat", sum := "1965998e8be77bb338d69c397f2734d4ab4e750cd193e5440a592e6c98b8aeaa", func := "masterdisc/masterdisclaw15.DriveRaws", spec := "driveRaws", inPlace := ["internal/abi.NoEscape", "internal/bytealg.MakeNoZero", "maps.clone"], unfollowed := true, recurses := true, apart := false, narrowed := true }
def DriveRawsUptoSaid : Prop := driveRawsUptoRow.holds Tryz.pinned (OpenSpec.upto driveRawsSpec)

end Rows
end Go.Proofs.YtfnehkmhcmkhjaaGreat
