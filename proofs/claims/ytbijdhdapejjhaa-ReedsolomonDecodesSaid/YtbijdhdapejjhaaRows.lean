/-
  No cell of these rows narrows 'for every input' (looked for: loops, veiled, ifaces, maps, wideKeys, modest, calm, conditions, laid).
  DERIVED. THE GIVEN ROWS OF THIS SEAT. 8 by the template 'for every input the law returns true; each argument reads behind the call as it read before'; 0 by the template 'total and deterministic' (their statements: YtbijdhdapejjhaaTotals.lean).
  GIVEN WITH THE SEED: the statements are not yours to turn. If you find one false, say at which input.
  Laid BY PROGRAM, IN A SANDBOX (cutbox-rows.mjs): the forced cells as the released guide's own fill.sh prints them over the translation 4ee515432b7511e1… (all of the seat's roots in one cut). By AI agents, Wed Nov 11 2026. No macro, syntax, notation, axiom, sorry.
-/
import Derived.Test.YtbijdhdapejjhaaChecked
import GoSem.Claim
import GoSem.ClaimJoined
import GoSem.ClaimMapViews
import Derived.JoinedTies
import Derived.KernelRfl
namespace Go.Proofs.Ytbijdhdapejjhaa
/- THE CELL 'sum', in the pinned program and in every row, IS THE sha256 OF THE DUMP (.gsa) THAT YtbijdhdapejjhaaProg.lean LOADS. Nothing in Lean hashes anything: it is a label: what it is worth is what the hold of that sum in a sandbox is worth. -/
noncomputable def Try.pinned : Pinned := { name := "ytbijdhdapejjhaa", sum := "4ee515432b7511e19f9a78c1bb554713b8f6136e7eb21671063fefc9c6370b23", checked := Try.checked }
namespace Rows
def none {H : Type} : Left H := { results := [], args := [] }

/-- 'masterdisclaw04.ReedsolomonCodes': WHATEVER THE INPUT: true; the input reads as it did. -/
def reedsolomonCodesSpec : ChangeSpec := { name := "reedsolomonCodes", fn := fun _ => fun
  | [d1, d2] => { results := [.lit (.bool true)], args := [d1, d2] }
  | _ => none }
def reedsolomonCodesRow : OpenClaim := { program := "ytbijdhdapejjhaa", sum := "4ee515432b7511e19f9a78c1bb554713b8f6136e7eb21671063fefc9c6370b23", func := "masterdisc/masterdisclaw04.ReedsolomonCodes", spec := "reedsolomonCodes", unfollowed := true, recurses := true, apart := false }
def ReedsolomonCodesSaid : Prop := reedsolomonCodesRow.holds Try.pinned (OpenSpec.ofChange reedsolomonCodesSpec)

/-- ITS FALSE NEIGHBOUR: 'it returns false'. Refute it at one input. -/
def reedsolomonCodesWrong : ChangeSpec := { name := "reedsolomonCodes", fn := fun _ => fun
  | [d1, d2] => { results := [.lit (.bool false)], args := [d1, d2] }
  | _ => none }
def ReedsolomonCodesWrongFalsely : Prop := reedsolomonCodesRow.holds Try.pinned (OpenSpec.ofChange reedsolomonCodesWrong)

/-- 'masterdisclaw04.ReedsolomonLinear': WHATEVER THE INPUT: true; the input reads as it did. -/
def reedsolomonLinearSpec : ChangeSpec := { name := "reedsolomonLinear", fn := fun _ => fun
  | [d1, d2, d3] => { results := [.lit (.bool true)], args := [d1, d2, d3] }
  | _ => none }
def reedsolomonLinearRow : OpenClaim := { program := "ytbijdhdapejjhaa", sum := "4ee515432b7511e19f9a78c1bb554713b8f6136e7eb21671063fefc9c6370b23", func := "masterdisc/masterdisclaw04.ReedsolomonLinear", spec := "reedsolomonLinear", unfollowed := true, recurses := true, apart := false }
def ReedsolomonLinearSaid : Prop := reedsolomonLinearRow.holds Try.pinned (OpenSpec.ofChange reedsolomonLinearSpec)

/-- ITS FALSE NEIGHBOUR: 'it returns false'. Refute it at one input. -/
def reedsolomonLinearWrong : ChangeSpec := { name := "reedsolomonLinear", fn := fun _ => fun
  | [d1, d2, d3] => { results := [.lit (.bool false)], args := [d1, d2, d3] }
  | _ => none }
def ReedsolomonLinearWrongFalsely : Prop := reedsolomonLinearRow.holds Try.pinned (OpenSpec.ofChange reedsolomonLinearWrong)

/-- 'masterdisclaw04.ReedsolomonCorrects': WHATEVER THE INPUT: true; the input reads as it did. -/
def reedsolomonCorrectsSpec : ChangeSpec := { name := "reedsolomonCorrects", fn := fun _ => fun
  | [d1, d2, d3, d4] => { results := [.lit (.bool true)], args := [d1, d2, d3, d4] }
  | _ => none }
def reedsolomonCorrectsRow : OpenClaim := { program := "ytbijdhdapejjhaa", sum := "4ee515432b7511e19f9a78c1bb554713b8f6136e7eb21671063fefc9c6370b23", func := "masterdisc/masterdisclaw04.ReedsolomonCorrects", spec := "reedsolomonCorrects", unfollowed := true, recurses := true, apart := false }
def ReedsolomonCorrectsSaid : Prop := reedsolomonCorrectsRow.holds Try.pinned (OpenSpec.ofChange reedsolomonCorrectsSpec)

/-- ITS FALSE NEIGHBOUR: 'it returns false'. Refute it at one input. -/
def reedsolomonCorrectsWrong : ChangeSpec := { name := "reedsolomonCorrects", fn := fun _ => fun
  | [d1, d2, d3, d4] => { results := [.lit (.bool false)], args := [d1, d2, d3, d4] }
  | _ => none }
def ReedsolomonCorrectsWrongFalsely : Prop := reedsolomonCorrectsRow.holds Try.pinned (OpenSpec.ofChange reedsolomonCorrectsWrong)

/-- 'masterdisclaw04.ReedsolomonDistance': WHATEVER THE INPUT: true; the input reads as it did. -/
def reedsolomonDistanceSpec : ChangeSpec := { name := "reedsolomonDistance", fn := fun _ => fun
  | [d1, d2, d3] => { results := [.lit (.bool true)], args := [d1, d2, d3] }
  | _ => none }
def reedsolomonDistanceRow : OpenClaim := { program := "ytbijdhdapejjhaa", sum := "4ee515432b7511e19f9a78c1bb554713b8f6136e7eb21671063fefc9c6370b23", func := "masterdisc/masterdisclaw04.ReedsolomonDistance", spec := "reedsolomonDistance", unfollowed := true, recurses := true, apart := false }
def ReedsolomonDistanceSaid : Prop := reedsolomonDistanceRow.holds Try.pinned (OpenSpec.ofChange reedsolomonDistanceSpec)

/-- ITS FALSE NEIGHBOUR: 'it returns false'. Refute it at one input. -/
def reedsolomonDistanceWrong : ChangeSpec := { name := "reedsolomonDistance", fn := fun _ => fun
  | [d1, d2, d3] => { results := [.lit (.bool false)], args := [d1, d2, d3] }
  | _ => none }
def ReedsolomonDistanceWrongFalsely : Prop := reedsolomonDistanceRow.holds Try.pinned (OpenSpec.ofChange reedsolomonDistanceWrong)

/-- 'masterdisclaw04.ReedsolomonShortens': WHATEVER THE INPUT: true; the input reads as it did. -/
def reedsolomonShortensSpec : ChangeSpec := { name := "reedsolomonShortens", fn := fun _ => fun
  | [d1, d2, d3] => { results := [.lit (.bool true)], args := [d1, d2, d3] }
  | _ => none }
def reedsolomonShortensRow : OpenClaim := { program := "ytbijdhdapejjhaa", sum := "4ee515432b7511e19f9a78c1bb554713b8f6136e7eb21671063fefc9c6370b23", func := "masterdisc/masterdisclaw04.ReedsolomonShortens", spec := "reedsolomonShortens", unfollowed := true, recurses := true, apart := false }
def ReedsolomonShortensSaid : Prop := reedsolomonShortensRow.holds Try.pinned (OpenSpec.ofChange reedsolomonShortensSpec)

/-- ITS FALSE NEIGHBOUR: 'it returns false'. Refute it at one input. -/
def reedsolomonShortensWrong : ChangeSpec := { name := "reedsolomonShortens", fn := fun _ => fun
  | [d1, d2, d3] => { results := [.lit (.bool false)], args := [d1, d2, d3] }
  | _ => none }
def ReedsolomonShortensWrongFalsely : Prop := reedsolomonShortensRow.holds Try.pinned (OpenSpec.ofChange reedsolomonShortensWrong)

/-- 'masterdisclaw04.ReedsolomonDecodes': WHATEVER THE INPUT: true; the input reads as it did. -/
def reedsolomonDecodesSpec : ChangeSpec := { name := "reedsolomonDecodes", fn := fun _ => fun
  | [d1, d2, d3] => { results := [.lit (.bool true)], args := [d1, d2, d3] }
  | _ => none }
def reedsolomonDecodesRow : OpenClaim := { program := "ytbijdhdapejjhaa", sum := "4ee515432b7511e19f9a78c1bb554713b8f6136e7eb21671063fefc9c6370b23", func := "masterdisc/masterdisclaw04.ReedsolomonDecodes", spec := "reedsolomonDecodes", unfollowed := true, recurses := true, apart := false }
def ReedsolomonDecodesSaid : Prop := reedsolomonDecodesRow.holds Try.pinned (OpenSpec.ofChange reedsolomonDecodesSpec)

/-- ITS FALSE NEIGHBOUR: 'it returns false'. Refute it at one input. -/
def reedsolomonDecodesWrong : ChangeSpec := { name := "reedsolomonDecodes", fn := fun _ => fun
  | [d1, d2, d3] => { results := [.lit (.bool false)], args := [d1, d2, d3] }
  | _ => none }
def ReedsolomonDecodesWrongFalsely : Prop := reedsolomonDecodesRow.holds Try.pinned (OpenSpec.ofChange reedsolomonDecodesWrong)

/-- 'masterdisclaw04.ReedsolomonSound': WHATEVER THE INPUT: true; the input reads as it did. -/
def reedsolomonSoundSpec : ChangeSpec := { name := "reedsolomonSound", fn := fun _ => fun
  | [d1, d2, d3] => { results := [.lit (.bool true)], args := [d1, d2, d3] }
  | _ => none }
def reedsolomonSoundRow : OpenClaim := { program := "ytbijdhdapejjhaa", sum := "4ee515432b7511e19f9a78c1bb554713b8f6136e7eb21671063fefc9c6370b23", func := "masterdisc/masterdisclaw04.ReedsolomonSound", spec := "reedsolomonSound", unfollowed := true, recurses := true, apart := false }
def ReedsolomonSoundSaid : Prop := reedsolomonSoundRow.holds Try.pinned (OpenSpec.ofChange reedsolomonSoundSpec)

/-- ITS FALSE NEIGHBOUR: 'it returns false'. Refute it at one input. -/
def reedsolomonSoundWrong : ChangeSpec := { name := "reedsolomonSound", fn := fun _ => fun
  | [d1, d2, d3] => { results := [.lit (.bool false)], args := [d1, d2, d3] }
  | _ => none }
def ReedsolomonSoundWrongFalsely : Prop := reedsolomonSoundRow.holds Try.pinned (OpenSpec.ofChange reedsolomonSoundWrong)

/-- 'masterdisclaw04.ReedsolomonFills': WHATEVER THE INPUT: true; the input reads as it did. -/
def reedsolomonFillsSpec : ChangeSpec := { name := "reedsolomonFills", fn := fun _ => fun
  | [d1, d2, d3] => { results := [.lit (.bool true)], args := [d1, d2, d3] }
  | _ => none }
def reedsolomonFillsRow : OpenClaim := { program := "ytbijdhdapejjhaa", sum := "4ee515432b7511e19f9a78c1bb554713b8f6136e7eb21671063fefc9c6370b23", func := "masterdisc/masterdisclaw04.ReedsolomonFills", spec := "reedsolomonFills", unfollowed := true, recurses := true, apart := false }
def ReedsolomonFillsSaid : Prop := reedsolomonFillsRow.holds Try.pinned (OpenSpec.ofChange reedsolomonFillsSpec)

/-- ITS FALSE NEIGHBOUR: 'it returns false'. Refute it at one input. -/
def reedsolomonFillsWrong : ChangeSpec := { name := "reedsolomonFills", fn := fun _ => fun
  | [d1, d2, d3] => { results := [.lit (.bool false)], args := [d1, d2, d3] }
  | _ => none }
def ReedsolomonFillsWrongFalsely : Prop := reedsolomonFillsRow.holds Try.pinned (OpenSpec.ofChange reedsolomonFillsWrong)

/- THE SECOND FORM. 'bulk': how many values and letters a reading holds, each counted each time it is reached (what is shared counts as often as it is met; a slice's spare places count too). A statement '..UptoSaid' is the law's where the arguments, and the package variables that the reading takes, are together of bulk at most 1048576: NARROWER than '..Said'. Prove '..Said' where nothing that the law and all that it calls make is longer than what came in: it says more and counts as full. Else prove '..UptoSaid'. A law counts once. -/
mutual
def uptoBulk {H : Type} : DataW H → Nat
  | .lit (.string bytes) => bytes.length + 1
  | .lit _ => 1
  | .nil => 1
  | .ptr d => uptoBulk d + 1
  | .slice elems spare => uptoBulkAll elems + uptoBulkAll spare + 1
  | .agg parts => uptoBulkAll parts + 1
  | .iface _ d => uptoBulk d + 1
  | .map entries => uptoBulkEntries entries + 1
  | .held _ => 1
def uptoBulkAll {H : Type} : List (DataW H) → Nat
  | [] => 0
  | d :: r => uptoBulk d + uptoBulkAll r
def uptoBulkEntries {H : Type} : List (Lit × DataW H) → Nat
  | [] => 0
  | x :: r => uptoBulkEntry x + uptoBulkEntries r
def uptoBulkEntry {H : Type} : Lit × DataW H → Nat
  | (.string bytes, d) => bytes.length + uptoBulk d + 1
  | (_, d) => uptoBulk d + 1
 end
def uptoSmall : (H : Type) → List (DataW H) → Bool := fun _ ds => decide (uptoBulkAll ds ≤ 1048576)
def OpenSpec.upto (s : _root_.Go.ChangeSpec) : _root_.Go.OpenSpec := { _root_.Go.OpenSpec.ofChange s with cond := some uptoSmall }

/-- 'masterdisclaw04.ReedsolomonCodes', WHERE WHAT IT READS IS OF BULK AT MOST 1048576: true; the input reads as it did. -/
def reedsolomonCodesUptoRow : OpenClaim := { program := "ytbijdhdapejjhaa", sum := "4ee515432b7511e19f9a78c1bb554713b8f6136e7eb21671063fefc9c6370b23", func := "masterdisc/masterdisclaw04.ReedsolomonCodes", spec := "reedsolomonCodes", unfollowed := true, recurses := true, apart := false, narrowed := true }
def ReedsolomonCodesUptoSaid : Prop := reedsolomonCodesUptoRow.holds Try.pinned (OpenSpec.upto reedsolomonCodesSpec)

/-- 'masterdisclaw04.ReedsolomonLinear', WHERE WHAT IT READS IS OF BULK AT MOST 1048576: true; the input reads as it did. -/
def reedsolomonLinearUptoRow : OpenClaim := { program := "ytbijdhdapejjhaa", sum := "4ee515432b7511e19f9a78c1bb554713b8f6136e7eb21671063fefc9c6370b23", func := "masterdisc/masterdisclaw04.ReedsolomonLinear", spec := "reedsolomonLinear", unfollowed := true, recurses := true, apart := false, narrowed := true }
def ReedsolomonLinearUptoSaid : Prop := reedsolomonLinearUptoRow.holds Try.pinned (OpenSpec.upto reedsolomonLinearSpec)

/-- 'masterdisclaw04.ReedsolomonCorrects', WHERE WHAT IT READS IS OF BULK AT MOST 1048576: true; the input reads as it did. -/
def reedsolomonCorrectsUptoRow : OpenClaim := { program := "ytbijdhdapejjhaa", sum := "4ee515432b7511e19f9a78c1bb554713b8f6136e7eb21671063fefc9c6370b23", func := "masterdisc/masterdisclaw04.ReedsolomonCorrects", spec := "reedsolomonCorrects", unfollowed := true, recurses := true, apart := false, narrowed := true }
def ReedsolomonCorrectsUptoSaid : Prop := reedsolomonCorrectsUptoRow.holds Try.pinned (OpenSpec.upto reedsolomonCorrectsSpec)

/-- 'masterdisclaw04.ReedsolomonDistance', WHERE WHAT IT READS IS OF BULK AT MOST 1048576: true; the input reads as it did. -/
def reedsolomonDistanceUptoRow : OpenClaim := { program := "ytbijdhdapejjhaa", sum := "4ee515432b7511e19f9a78c1bb554713b8f6136e7eb21671063fefc9c6370b23", func := "masterdisc/masterdisclaw04.ReedsolomonDistance", spec := "reedsolomonDistance", unfollowed := true, recurses := true, apart := false, narrowed := true }
def ReedsolomonDistanceUptoSaid : Prop := reedsolomonDistanceUptoRow.holds Try.pinned (OpenSpec.upto reedsolomonDistanceSpec)

/-- 'masterdisclaw04.ReedsolomonShortens', WHERE WHAT IT READS IS OF BULK AT MOST 1048576: true; the input reads as it did. -/
def reedsolomonShortensUptoRow : OpenClaim := { program := "ytbijdhdapejjhaa", sum := "4ee515432b7511e19f9a78c1bb554713b8f6136e7eb21671063fefc9c6370b23", func := "masterdisc/masterdisclaw04.ReedsolomonShortens", spec := "reedsolomonShortens", unfollowed := true, recurses := true, apart := false, narrowed := true }
def ReedsolomonShortensUptoSaid : Prop := reedsolomonShortensUptoRow.holds Try.pinned (OpenSpec.upto reedsolomonShortensSpec)

/-- 'masterdisclaw04.ReedsolomonDecodes', WHERE WHAT IT READS IS OF BULK AT MOST 1048576: true; the input reads as it did. -/
def reedsolomonDecodesUptoRow : OpenClaim := { program := "ytbijdhdapejjhaa", sum := "4ee515432b7511e19f9a78c1bb554713b8f6136e7eb21671063fefc9c6370b23", func := "masterdisc/masterdisclaw04.ReedsolomonDecodes", spec := "reedsolomonDecodes", unfollowed := true, recurses := true, apart := false, narrowed := true }
def ReedsolomonDecodesUptoSaid : Prop := reedsolomonDecodesUptoRow.holds Try.pinned (OpenSpec.upto reedsolomonDecodesSpec)

/-- 'masterdisclaw04.ReedsolomonSound', WHERE WHAT IT READS IS OF BULK AT MOST 1048576: true; the input reads as it did. -/
def reedsolomonSoundUptoRow : OpenClaim := { program := "ytbijdhdapejjhaa", sum := "4ee515432b7511e19f9a78c1bb554713b8f6136e7eb21671063fefc9c6370b23", func := "masterdisc/masterdisclaw04.ReedsolomonSound", spec := "reedsolomonSound", unfollowed := true, recurses := true, apart := false, narrowed := true }
def ReedsolomonSoundUptoSaid : Prop := reedsolomonSoundUptoRow.holds Try.pinned (OpenSpec.upto reedsolomonSoundSpec)

/-- 'masterdisclaw04.ReedsolomonFills', WHERE WHAT IT READS IS OF BULK AT MOST 1048576: true; the input reads as it did. -/
def reedsolomonFillsUptoRow : OpenClaim := { program := "ytbijdhdapejjhaa", sum := "4ee515432b7511e19f9a78c1bb554713b8f6136e7eb21671063fefc9c6370b23", func := "masterdisc/masterdisclaw04.ReedsolomonFills", spec := "reedsolomonFills", unfollowed := true, recurses := true, apart := false, narrowed := true }
def ReedsolomonFillsUptoSaid : Prop := reedsolomonFillsUptoRow.holds Try.pinned (OpenSpec.upto reedsolomonFillsSpec)

end Rows
end Go.Proofs.Ytbijdhdapejjhaa
