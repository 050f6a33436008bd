/-
  No cell of these rows narrows 'for every input' (looked for: loops, veiled, ifaces, maps, wideKeys, modest, calm, conditions, laid).
  DERIVED. THE GIVEN ROWS OF THIS SEAT. 6 by the template 'for every input the law returns true; each argument reads behind the call as it read before'; 0 by the template 'total and deterministic' (their statements: YtiioojlihapdaaaTotals.lean).
  GIVEN WITH THE SEED: the statements are not yours to turn. If you find one false, say at which input.
  Laid BY PROGRAM, IN A SANDBOX (cutbox-rows.mjs): the forced cells as the released guide's own fill.sh prints them over the translation 30e957fb61ba8968… (all of the seat's roots in one cut). By AI agents, Wed Nov 11 2026. No macro, syntax, notation, axiom, sorry.
-/
import Derived.Test.YtiioojlihapdaaaChecked
import GoSem.Claim
import GoSem.ClaimJoined
import GoSem.ClaimMapViews
import Derived.JoinedTies
import Derived.KernelRfl
namespace Go.Proofs.Ytiioojlihapdaaa
/- THE CELL 'sum', in the pinned program and in every row, IS THE sha256 OF THE DUMP (.gsa) THAT YtiioojlihapdaaaProg.lean LOADS. Nothing in Lean hashes anything: it is a label: what it is worth is what the hold of that sum in a sandbox is worth. -/
noncomputable def Try.pinned : Pinned := { name := "ytiioojlihapdaaa", sum := "30e957fb61ba8968a2a97d8203becc231061f3b610e56add08e0c836691b301b", checked := Try.checked }
namespace Rows
def none {H : Type} : Left H := { results := [], args := [] }

/-- 'masterdisclaw14.TocOperations': WHATEVER THE INPUT: true; the input reads as it did. -/
def tocOperationsSpec : ChangeSpec := { name := "tocOperations", fn := fun _ => fun
  | [d1, d2, d3] => { results := [.lit (.bool true)], args := [d1, d2, d3] }
  | _ => none }
def tocOperationsRow : OpenClaim := { program := "ytiioojlihapdaaa", sum := "30e957fb61ba8968a2a97d8203becc231061f3b610e56add08e0c836691b301b", func := "masterdisc/masterdisclaw14.TocOperations", spec := "tocOperations", unfollowed := true, recurses := true, apart := false }
def TocOperationsSaid : Prop := tocOperationsRow.holds Try.pinned (OpenSpec.ofChange tocOperationsSpec)

/-- ITS FALSE NEIGHBOUR: 'it returns false'. Refute it at one input. -/
def tocOperationsWrong : ChangeSpec := { name := "tocOperations", fn := fun _ => fun
  | [d1, d2, d3] => { results := [.lit (.bool false)], args := [d1, d2, d3] }
  | _ => none }
def TocOperationsWrongFalsely : Prop := tocOperationsRow.holds Try.pinned (OpenSpec.ofChange tocOperationsWrong)

/-- 'masterdisclaw14.TocAppends': WHATEVER THE INPUT: true; the input reads as it did. -/
def tocAppendsSpec : ChangeSpec := { name := "tocAppends", fn := fun _ => fun
  | [d1, d2] => { results := [.lit (.bool true)], args := [d1, d2] }
  | _ => none }
def tocAppendsRow : OpenClaim := { program := "ytiioojlihapdaaa", sum := "30e957fb61ba8968a2a97d8203becc231061f3b610e56add08e0c836691b301b", func := "masterdisc/masterdisclaw14.TocAppends", spec := "tocAppends", unfollowed := true, recurses := true, apart := false }
def TocAppendsSaid : Prop := tocAppendsRow.holds Try.pinned (OpenSpec.ofChange tocAppendsSpec)

/-- ITS FALSE NEIGHBOUR: 'it returns false'. Refute it at one input. -/
def tocAppendsWrong : ChangeSpec := { name := "tocAppends", fn := fun _ => fun
  | [d1, d2] => { results := [.lit (.bool false)], args := [d1, d2] }
  | _ => none }
def TocAppendsWrongFalsely : Prop := tocAppendsRow.holds Try.pinned (OpenSpec.ofChange tocAppendsWrong)

/-- 'masterdisclaw14.TocKeeps': WHATEVER THE INPUT: true; the input reads as it did. -/
def tocKeepsSpec : ChangeSpec := { name := "tocKeeps", fn := fun _ => fun
  | [d1, d2] => { results := [.lit (.bool true)], args := [d1, d2] }
  | _ => none }
def tocKeepsRow : OpenClaim := { program := "ytiioojlihapdaaa", sum := "30e957fb61ba8968a2a97d8203becc231061f3b610e56add08e0c836691b301b", func := "masterdisc/masterdisclaw14.TocKeeps", spec := "tocKeeps", unfollowed := true, recurses := true, apart := false }
def TocKeepsSaid : Prop := tocKeepsRow.holds Try.pinned (OpenSpec.ofChange tocKeepsSpec)

/-- ITS FALSE NEIGHBOUR: 'it returns false'. Refute it at one input. -/
def tocKeepsWrong : ChangeSpec := { name := "tocKeeps", fn := fun _ => fun
  | [d1, d2] => { results := [.lit (.bool false)], args := [d1, d2] }
  | _ => none }
def TocKeepsWrongFalsely : Prop := tocKeepsRow.holds Try.pinned (OpenSpec.ofChange tocKeepsWrong)

/-- 'masterdisclaw14.TocSessions': WHATEVER THE INPUT: true; the input reads as it did. -/
def tocSessionsSpec : ChangeSpec := { name := "tocSessions", fn := fun _ => fun
  | [d1, d2] => { results := [.lit (.bool true)], args := [d1, d2] }
  | _ => none }
def tocSessionsRow : OpenClaim := { program := "ytiioojlihapdaaa", sum := "30e957fb61ba8968a2a97d8203becc231061f3b610e56add08e0c836691b301b", func := "masterdisc/masterdisclaw14.TocSessions", spec := "tocSessions", unfollowed := true, recurses := true, apart := false }
def TocSessionsSaid : Prop := tocSessionsRow.holds Try.pinned (OpenSpec.ofChange tocSessionsSpec)

/-- ITS FALSE NEIGHBOUR: 'it returns false'. Refute it at one input. -/
def tocSessionsWrong : ChangeSpec := { name := "tocSessions", fn := fun _ => fun
  | [d1, d2] => { results := [.lit (.bool false)], args := [d1, d2] }
  | _ => none }
def TocSessionsWrongFalsely : Prop := tocSessionsRow.holds Try.pinned (OpenSpec.ofChange tocSessionsWrong)

/-- 'masterdisclaw14.TocStores': WHATEVER THE INPUT: true; the input reads as it did. -/
def tocStoresSpec : ChangeSpec := { name := "tocStores", fn := fun _ => fun
  | [d1, d2, d3, d4] => { results := [.lit (.bool true)], args := [d1, d2, d3, d4] }
  | _ => none }
def tocStoresRow : OpenClaim := { program := "ytiioojlihapdaaa", sum := "30e957fb61ba8968a2a97d8203becc231061f3b610e56add08e0c836691b301b", func := "masterdisc/masterdisclaw14.TocStores", spec := "tocStores", unfollowed := true, recurses := true, apart := false }
def TocStoresSaid : Prop := tocStoresRow.holds Try.pinned (OpenSpec.ofChange tocStoresSpec)

/-- ITS FALSE NEIGHBOUR: 'it returns false'. Refute it at one input. -/
def tocStoresWrong : ChangeSpec := { name := "tocStores", fn := fun _ => fun
  | [d1, d2, d3, d4] => { results := [.lit (.bool false)], args := [d1, d2, d3, d4] }
  | _ => none }
def TocStoresWrongFalsely : Prop := tocStoresRow.holds Try.pinned (OpenSpec.ofChange tocStoresWrong)

/-- 'masterdisclaw14.TocAtomic': WHATEVER THE INPUT: true; the input reads as it did. -/
def tocAtomicSpec : ChangeSpec := { name := "tocAtomic", fn := fun _ => fun
  | [d1, d2, d3] => { results := [.lit (.bool true)], args := [d1, d2, d3] }
  | _ => none }
def tocAtomicRow : OpenClaim := { program := "ytiioojlihapdaaa", sum := "30e957fb61ba8968a2a97d8203becc231061f3b610e56add08e0c836691b301b", func := "masterdisc/masterdisclaw14.TocAtomic", spec := "tocAtomic", unfollowed := true, recurses := true, apart := false }
def TocAtomicSaid : Prop := tocAtomicRow.holds Try.pinned (OpenSpec.ofChange tocAtomicSpec)

/-- ITS FALSE NEIGHBOUR: 'it returns false'. Refute it at one input. -/
def tocAtomicWrong : ChangeSpec := { name := "tocAtomic", fn := fun _ => fun
  | [d1, d2, d3] => { results := [.lit (.bool false)], args := [d1, d2, d3] }
  | _ => none }
def TocAtomicWrongFalsely : Prop := tocAtomicRow.holds Try.pinned (OpenSpec.ofChange tocAtomicWrong)

/- THE SECOND FORM. 'bulk': how many values and letters a reading holds, each counted each time it is reached (what is shared counts as often as it is met; a slice's spare places count too). A statement '..UptoSaid' is the law's where the arguments, and the package variables that the reading takes, are together of bulk at most 1048576: NARROWER than '..Said'. Prove '..Said' where nothing that the law and all that it calls make is longer than what came in: it says more and counts as full. Else prove '..UptoSaid'. A law counts once. -/
mutual
def uptoBulk {H : Type} : DataW H → Nat
  | .lit (.string bytes) => bytes.length + 1
  | .lit _ => 1
  | .nil => 1
  | .ptr d => uptoBulk d + 1
  | .slice elems spare => uptoBulkAll elems + uptoBulkAll spare + 1
  | .agg parts => uptoBulkAll parts + 1
  | .iface _ d => uptoBulk d + 1
  | .map entries => uptoBulkEntries entries + 1
  | .held _ => 1
def uptoBulkAll {H : Type} : List (DataW H) → Nat
  | [] => 0
  | d :: r => uptoBulk d + uptoBulkAll r
def uptoBulkEntries {H : Type} : List (Lit × DataW H) → Nat
  | [] => 0
  | x :: r => uptoBulkEntry x + uptoBulkEntries r
def uptoBulkEntry {H : Type} : Lit × DataW H → Nat
  | (.string bytes, d) => bytes.length + uptoBulk d + 1
  | (_, d) => uptoBulk d + 1
 end
def uptoSmall : (H : Type) → List (DataW H) → Bool := fun _ ds => decide (uptoBulkAll ds ≤ 1048576)
def OpenSpec.upto (s : _root_.Go.ChangeSpec) : _root_.Go.OpenSpec := { _root_.Go.OpenSpec.ofChange s with cond := some uptoSmall }

/-- 'masterdisclaw14.TocOperations', WHERE WHAT IT READS IS OF BULK AT MOST 1048576: true; the input reads as it did. -/
def tocOperationsUptoRow : OpenClaim := { program := "ytiioojlihapdaaa", sum := "30e957fb61ba8968a2a97d8203becc231061f3b610e56add08e0c836691b301b", func := "masterdisc/masterdisclaw14.TocOperations", spec := "tocOperations", unfollowed := true, recurses := true, apart := false, narrowed := true }
def TocOperationsUptoSaid : Prop := tocOperationsUptoRow.holds Try.pinned (OpenSpec.upto tocOperationsSpec)

/-- 'masterdisclaw14.TocAppends', WHERE WHAT IT READS IS OF BULK AT MOST 1048576: true; the input reads as it did. -/
def tocAppendsUptoRow : OpenClaim := { program := "ytiioojlihapdaaa", sum := "30e957fb61ba8968a2a97d8203becc231061f3b610e56add08e0c836691b301b", func := "masterdisc/masterdisclaw14.TocAppends", spec := "tocAppends", unfollowed := true, recurses := true, apart := false, narrowed := true }
def TocAppendsUptoSaid : Prop := tocAppendsUptoRow.holds Try.pinned (OpenSpec.upto tocAppendsSpec)

/-- 'masterdisclaw14.TocKeeps', WHERE WHAT IT READS IS OF BULK AT MOST 1048576: true; the input reads as it did. -/
def tocKeepsUptoRow : OpenClaim := { program := "ytiioojlihapdaaa", sum := "30e957fb61ba8968a2a97d8203becc231061f3b610e56add08e0c836691b301b", func := "masterdisc/masterdisclaw14.TocKeeps", spec := "tocKeeps", unfollowed := true, recurses := true, apart := false, narrowed := true }
def TocKeepsUptoSaid : Prop := tocKeepsUptoRow.holds Try.pinned (OpenSpec.upto tocKeepsSpec)

/-- 'masterdisclaw14.TocSessions', WHERE WHAT IT READS IS OF BULK AT MOST 1048576: true; the input reads as it did. -/
def tocSessionsUptoRow : OpenClaim := { program := "ytiioojlihapdaaa", sum := "30e957fb61ba8968a2a97d8203becc231061f3b610e56add08e0c836691b301b", func := "masterdisc/masterdisclaw14.TocSessions", spec := "tocSessions", unfollowed := true, recurses := true, apart := false, narrowed := true }
def TocSessionsUptoSaid : Prop := tocSessionsUptoRow.holds Try.pinned (OpenSpec.upto tocSessionsSpec)

/-- 'masterdisclaw14.TocStores', WHERE WHAT IT READS IS OF BULK AT MOST 1048576: true; the input reads as it did. -/
def tocStoresUptoRow : OpenClaim := { program := "ytiioojlihapdaaa", sum := "30e957fb61ba8968a2a97d8203becc231061f3b610e56add08e0c836691b301b", func := "masterdisc/masterdisclaw14.TocStores", spec := "tocStores", unfollowed := true, recurses := true, apart := false, narrowed := true }
def TocStoresUptoSaid : Prop := tocStoresUptoRow.holds Try.pinned (OpenSpec.upto tocStoresSpec)

/-- 'masterdisclaw14.TocAtomic', WHERE WHAT IT READS IS OF BULK AT MOST 1048576: true; the input reads as it did. -/
def tocAtomicUptoRow : OpenClaim := { program := "ytiioojlihapdaaa", sum := "30e957fb61ba8968a2a97d8203becc231061f3b610e56add08e0c836691b301b", func := "masterdisc/masterdisclaw14.TocAtomic", spec := "tocAtomic", unfollowed := true, recurses := true, apart := false, narrowed := true }
def TocAtomicUptoSaid : Prop := tocAtomicUptoRow.holds Try.pinned (OpenSpec.upto tocAtomicSpec)

end Rows
end Go.Proofs.Ytiioojlihapdaaa
