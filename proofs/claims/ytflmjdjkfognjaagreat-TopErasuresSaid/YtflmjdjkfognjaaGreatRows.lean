/-
  No cell of these rows narrows 'for every input' (looked for: loops, veiled, ifaces, maps, wideKeys, modest, calm, conditions, laid).
  DERIVED. THE GIVEN ROWS OF THIS SEAT. 3 by the template 'for every input the law returns true; each argument reads behind the call as it read before'; 0 by the template 'total and deterministic' (their statements: YtflmjdjkfognjaaGreatTotals.lean).
  GIVEN WITH THE SEED: the statements are not yours to turn. If you find one false, say at which input.
  Laid BY PROGRAM, IN A SANDBOX (cutbox-rows.mjs): the forced cells as the released guide's own fill.sh prints them over the translation d3118e069b2e0c71… (all of the seat's roots in one cut). By AI agents, Wed Nov 11 2026. No macro, syntax, notation, axiom, sorry.
-/
import Derived.Test.YtflmjdjkfognjaaGreatChecked
import GoSem.Claim
import GoSem.ClaimJoined
import GoSem.ClaimMapViews
import Derived.JoinedTies
import Derived.KernelRfl
namespace Go.Proofs.YtflmjdjkfognjaaGreat
/- THE CELL 'sum', in the pinned program and in every row, IS THE sha256 OF THE DUMP (.gsa) THAT YtflmjdjkfognjaaGreatProg.lean LOADS. Nothing in Lean hashes anything: it is a label: what it is worth is what the hold of that sum in a sandbox is worth. -/
noncomputable def Tryz.pinned : Pinned := { name := "ytflmjdjkfognjaagreat", sum := "d3118e069b2e0c712cdf4b7386a1ec699c22da1511348dda83263aefa22e0e2f", checked := Tryz.checked }
namespace Rows
def none {H : Type} : Left H := { results := [], args := [] }

/-- 'masterdisctop.TopPrograms': WHATEVER THE INPUT: true; the input reads as it did. -/
def topProgramsSpec : ChangeSpec := { name := "topPrograms", fn := fun _ => fun
  | [d1, d2, d3, d4] => { results := [.lit (.bool true)], args := [d1, d2, d3, d4] }
  | _ => none }
def topProgramsRow : OpenClaim := { program := "ytflmjdjkfognjaagreat", sum := "d3118e069b2e0c712cdf4b7386a1ec699c22da1511348dda83263aefa22e0e2f", func := "masterdisc/masterdisctop.TopPrograms", spec := "topPrograms", inPlace := ["internal/abi.NoEscape", "internal/bytealg.MakeNoZero"], unfollowed := true, recurses := true, apart := false }
def TopProgramsSaid : Prop := topProgramsRow.holds Tryz.pinned (OpenSpec.ofChange topProgramsSpec)

/-- ITS FALSE NEIGHBOUR: 'it returns false'. Refute it at one input. -/
def topProgramsWrong : ChangeSpec := { name := "topPrograms", fn := fun _ => fun
  | [d1, d2, d3, d4] => { results := [.lit (.bool false)], args := [d1, d2, d3, d4] }
  | _ => none }
def TopProgramsWrongFalsely : Prop := topProgramsRow.holds Tryz.pinned (OpenSpec.ofChange topProgramsWrong)

/-- 'masterdisctop.TopErasures': WHATEVER THE INPUT: true; the input reads as it did. -/
def topErasuresSpec : ChangeSpec := { name := "topErasures", fn := fun _ => fun
  | [d1, d2] => { results := [.lit (.bool true)], args := [d1, d2] }
  | _ => none }
def topErasuresRow : OpenClaim := { program := "ytflmjdjkfognjaagreat", sum := "d3118e069b2e0c712cdf4b7386a1ec699c22da1511348dda83263aefa22e0e2f", func := "masterdisc/masterdisctop.TopErasures", spec := "topErasures", inPlace := ["internal/abi.NoEscape", "internal/bytealg.MakeNoZero"], unfollowed := true, recurses := true, apart := false }
def TopErasuresSaid : Prop := topErasuresRow.holds Tryz.pinned (OpenSpec.ofChange topErasuresSpec)

/-- ITS FALSE NEIGHBOUR: 'it returns false'. Refute it at one input. -/
def topErasuresWrong : ChangeSpec := { name := "topErasures", fn := fun _ => fun
  | [d1, d2] => { results := [.lit (.bool false)], args := [d1, d2] }
  | _ => none }
def TopErasuresWrongFalsely : Prop := topErasuresRow.holds Tryz.pinned (OpenSpec.ofChange topErasuresWrong)

/-- 'masterdisctop.TopSessions': WHATEVER THE INPUT: true; the input reads as it did. -/
def topSessionsSpec : ChangeSpec := { name := "topSessions", fn := fun _ => fun
  | [d1, d2] => { results := [.lit (.bool true)], args := [d1, d2] }
  | _ => none }
def topSessionsRow : OpenClaim := { program := "ytflmjdjkfognjaagreat", sum := "d3118e069b2e0c712cdf4b7386a1ec699c22da1511348dda83263aefa22e0e2f", func := "masterdisc/masterdisctop.TopSessions", spec := "topSessions", inPlace := ["internal/abi.NoEscape", "internal/bytealg.MakeNoZero"], unfollowed := true, recurses := true, apart := false }
def TopSessionsSaid : Prop := topSessionsRow.holds Tryz.pinned (OpenSpec.ofChange topSessionsSpec)

/-- ITS FALSE NEIGHBOUR: 'it returns false'. Refute it at one input. -/
def topSessionsWrong : ChangeSpec := { name := "topSessions", fn := fun _ => fun
  | [d1, d2] => { results := [.lit (.bool false)], args := [d1, d2] }
  | _ => none }
def TopSessionsWrongFalsely : Prop := topSessionsRow.holds Tryz.pinned (OpenSpec.ofChange topSessionsWrong)

/- THE SECOND FORM. 'bulk': how many values and letters a reading holds, each counted each time it is reached (what is shared counts as often as it is met; a slice's spare places count too). A statement '..UptoSaid' is the law's where the arguments, and the package variables that the reading takes, are together of bulk at most 1048576: NARROWER than '..Said'. Prove '..Said' where nothing that the law and all that it calls make is longer than what came in: it says more and counts as full. Else prove '..UptoSaid'. A law counts once. -/
mutual
def uptoBulk {H : Type} : DataW H → Nat
  | .lit (.string bytes) => bytes.length + 1
  | .lit _ => 1
  | .nil => 1
  | .ptr d => uptoBulk d + 1
  | .slice elems spare => uptoBulkAll elems + uptoBulkAll spare + 1
  | .agg parts => uptoBulkAll parts + 1
  | .iface _ d => uptoBulk d + 1
  | .map entries => uptoBulkEntries entries + 1
  | .held _ => 1
def uptoBulkAll {H : Type} : List (DataW H) → Nat
  | [] => 0
  | d :: r => uptoBulk d + uptoBulkAll r
def uptoBulkEntries {H : Type} : List (Lit × DataW H) → Nat
  | [] => 0
  | x :: r => uptoBulkEntry x + uptoBulkEntries r
def uptoBulkEntry {H : Type} : Lit × DataW H → Nat
  | (.string bytes, d) => bytes.length + uptoBulk d + 1
  | (_, d) => uptoBulk d + 1
 end
def uptoSmall : (H : Type) → List (DataW H) → Bool := fun _ ds => decide (uptoBulkAll ds ≤ 1048576)
def OpenSpec.upto (s : _root_.Go.ChangeSpec) : _root_.Go.OpenSpec := { _root_.Go.OpenSpec.ofChange s with cond := some uptoSmall }

/-- 'masterdisctop.TopPrograms', WHERE WHAT IT READS IS OF BULK AT MOST 1048576: true; the input reads as it did. -/
def topProgramsUptoRow : OpenClaim := { program := "ytflmjdjkfognjaagreat", sum := "d3118e069b2e0c712cdf4b7386a1ec699c22da1511348dda83263aefa22e0e2f", func := "masterdisc/masterdisctop.TopPrograms", spec := "topPrograms", inPlace := ["internal/abi.NoEscape", "internal/bytealg.MakeNoZero"], unfollowed := true, recurses := true, apart := false, narrowed := true }
def TopProgramsUptoSaid : Prop := topProgramsUptoRow.holds Tryz.pinned (OpenSpec.upto topProgramsSpec)

/-- 'masterdisctop.TopErasures', WHERE WHAT IT READS IS OF BULK AT MOST 1048576: true; the input reads as it did. -/
def topErasuresUptoRow : OpenClaim := { program := "ytflmjdjkfognjaagreat", sum := "d3118e069b2e0c712cdf4b7386a1ec699c22da1511348dda83263aefa22e0e2f", func := "masterdisc/masterdisctop.TopErasures", spec := "topErasures", inPlace := ["internal/abi.NoEscape", "internal/bytealg.MakeNoZero"], unfollowed := true, recurses := true, apart := false, narrowed := true }
def TopErasuresUptoSaid : Prop := topErasuresUptoRow.holds Tryz.pinned (OpenSpec.upto topErasuresSpec)

/-- 'masterdisctop.TopSessions', WHERE WHAT IT READS IS OF BULK AT MOST 1048576: true; the input reads as it did. -/
def topSessionsUptoRow : OpenClaim := { program := "ytflmjdjkfognjaagreat", sum := "d3118e069b2e0c712cdf4b7386a1ec699c22da1511348dda83263aefa22e0e2f", func := "masterdisc/masterdisctop.TopSessions", spec := "topSessions", inPlace := ["internal/abi.NoEscape", "internal/bytealg.MakeNoZero"], unfollowed := true, recurses := true, apart := false, narrowed := true }
def TopSessionsUptoSaid : Prop := topSessionsUptoRow.holds Tryz.pinned (OpenSpec.upto topSessionsSpec)

end Rows
end Go.Proofs.YtflmjdjkfognjaaGreat
