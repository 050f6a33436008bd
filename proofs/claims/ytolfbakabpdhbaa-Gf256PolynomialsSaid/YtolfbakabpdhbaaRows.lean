/-
  No cell of these rows narrows 'for every input' (looked for: loops, veiled, ifaces, maps, wideKeys, modest, calm, conditions, laid).
  DERIVED. THE GIVEN ROWS OF THIS SEAT. 7 by the template 'for every input the law returns true; each argument reads behind the call as it read before'; 0 by the template 'total and deterministic' (their statements: YtolfbakabpdhbaaTotals.lean).
  GIVEN WITH THE SEED: the statements are not yours to turn. If you find one false, say at which input.
  Laid BY PROGRAM, IN A SANDBOX (cutbox-rows.mjs): the forced cells as the released guide's own fill.sh prints them over the translation e462f4d0b2ce4f02… (all of the seat's roots in one cut). By AI agents, Wed Nov 11 2026. No macro, syntax, notation, axiom, sorry.
-/
import Derived.Test.YtolfbakabpdhbaaChecked
import GoSem.Claim
import GoSem.ClaimJoined
import GoSem.ClaimMapViews
import Derived.JoinedTies
import Derived.KernelRfl
namespace Go.Proofs.Ytolfbakabpdhbaa
/- THE CELL 'sum', in the pinned program and in every row, IS THE sha256 OF THE DUMP (.gsa) THAT YtolfbakabpdhbaaProg.lean LOADS. Nothing in Lean hashes anything: it is a label: what it is worth is what the hold of that sum in a sandbox is worth. -/
noncomputable def Try.pinned : Pinned := { name := "ytolfbakabpdhbaa", sum := "e462f4d0b2ce4f0256d507f45aea975f3c25ffcef68fab0efb443575744c071d", checked := Try.checked }
namespace Rows
def none {H : Type} : Left H := { results := [], args := [] }

/-- 'masterdisclaw03.Gf256Elements': WHATEVER THE INPUT: true; the input reads as it did. -/
def gf256ElementsSpec : ChangeSpec := { name := "gf256Elements", fn := fun _ => fun
  | [d1, d2, d3] => { results := [.lit (.bool true)], args := [d1, d2, d3] }
  | _ => none }
def gf256ElementsRow : OpenClaim := { program := "ytolfbakabpdhbaa", sum := "e462f4d0b2ce4f0256d507f45aea975f3c25ffcef68fab0efb443575744c071d", func := "masterdisc/masterdisclaw03.Gf256Elements", spec := "gf256Elements", apart := false }
def Gf256ElementsSaid : Prop := gf256ElementsRow.holds Try.pinned (OpenSpec.ofChange gf256ElementsSpec)

/-- ITS FALSE NEIGHBOUR: 'it returns false'. Refute it at one input. -/
def gf256ElementsWrong : ChangeSpec := { name := "gf256Elements", fn := fun _ => fun
  | [d1, d2, d3] => { results := [.lit (.bool false)], args := [d1, d2, d3] }
  | _ => none }
def Gf256ElementsWrongFalsely : Prop := gf256ElementsRow.holds Try.pinned (OpenSpec.ofChange gf256ElementsWrong)

/-- 'masterdisclaw03.Gf256Field': WHATEVER THE INPUT: true; the input reads as it did. -/
def gf256FieldSpec : ChangeSpec := { name := "gf256Field", fn := fun _ => fun
  | [d1, d2, d3] => { results := [.lit (.bool true)], args := [d1, d2, d3] }
  | _ => none }
def gf256FieldRow : OpenClaim := { program := "ytolfbakabpdhbaa", sum := "e462f4d0b2ce4f0256d507f45aea975f3c25ffcef68fab0efb443575744c071d", func := "masterdisc/masterdisclaw03.Gf256Field", spec := "gf256Field", apart := false }
def Gf256FieldSaid : Prop := gf256FieldRow.holds Try.pinned (OpenSpec.ofChange gf256FieldSpec)

/-- ITS FALSE NEIGHBOUR: 'it returns false'. Refute it at one input. -/
def gf256FieldWrong : ChangeSpec := { name := "gf256Field", fn := fun _ => fun
  | [d1, d2, d3] => { results := [.lit (.bool false)], args := [d1, d2, d3] }
  | _ => none }
def Gf256FieldWrongFalsely : Prop := gf256FieldRow.holds Try.pinned (OpenSpec.ofChange gf256FieldWrong)

/-- 'masterdisclaw03.Gf256Powers': WHATEVER THE INPUT: true; the input reads as it did. -/
def gf256PowersSpec : ChangeSpec := { name := "gf256Powers", fn := fun _ => fun
  | [d1, d2, d3] => { results := [.lit (.bool true)], args := [d1, d2, d3] }
  | _ => none }
def gf256PowersRow : OpenClaim := { program := "ytolfbakabpdhbaa", sum := "e462f4d0b2ce4f0256d507f45aea975f3c25ffcef68fab0efb443575744c071d", func := "masterdisc/masterdisclaw03.Gf256Powers", spec := "gf256Powers", apart := false }
def Gf256PowersSaid : Prop := gf256PowersRow.holds Try.pinned (OpenSpec.ofChange gf256PowersSpec)

/-- ITS FALSE NEIGHBOUR: 'it returns false'. Refute it at one input. -/
def gf256PowersWrong : ChangeSpec := { name := "gf256Powers", fn := fun _ => fun
  | [d1, d2, d3] => { results := [.lit (.bool false)], args := [d1, d2, d3] }
  | _ => none }
def Gf256PowersWrongFalsely : Prop := gf256PowersRow.holds Try.pinned (OpenSpec.ofChange gf256PowersWrong)

/-- 'masterdisclaw03.Gf256Roots': WHATEVER THE INPUT: true; the input reads as it did. -/
def gf256RootsSpec : ChangeSpec := { name := "gf256Roots", fn := fun _ => fun
  | [d1, d2] => { results := [.lit (.bool true)], args := [d1, d2] }
  | _ => none }
def gf256RootsRow : OpenClaim := { program := "ytolfbakabpdhbaa", sum := "e462f4d0b2ce4f0256d507f45aea975f3c25ffcef68fab0efb443575744c071d", func := "masterdisc/masterdisclaw03.Gf256Roots", spec := "gf256Roots", unfollowed := true, recurses := true, apart := false }
def Gf256RootsSaid : Prop := gf256RootsRow.holds Try.pinned (OpenSpec.ofChange gf256RootsSpec)

/-- ITS FALSE NEIGHBOUR: 'it returns false'. Refute it at one input. -/
def gf256RootsWrong : ChangeSpec := { name := "gf256Roots", fn := fun _ => fun
  | [d1, d2] => { results := [.lit (.bool false)], args := [d1, d2] }
  | _ => none }
def Gf256RootsWrongFalsely : Prop := gf256RootsRow.holds Try.pinned (OpenSpec.ofChange gf256RootsWrong)

/-- 'masterdisclaw03.Gf256Divides': WHATEVER THE INPUT: true; the input reads as it did. -/
def gf256DividesSpec : ChangeSpec := { name := "gf256Divides", fn := fun _ => fun
  | [d1, d2, d3] => { results := [.lit (.bool true)], args := [d1, d2, d3] }
  | _ => none }
def gf256DividesRow : OpenClaim := { program := "ytolfbakabpdhbaa", sum := "e462f4d0b2ce4f0256d507f45aea975f3c25ffcef68fab0efb443575744c071d", func := "masterdisc/masterdisclaw03.Gf256Divides", spec := "gf256Divides", apart := false }
def Gf256DividesSaid : Prop := gf256DividesRow.holds Try.pinned (OpenSpec.ofChange gf256DividesSpec)

/-- ITS FALSE NEIGHBOUR: 'it returns false'. Refute it at one input. -/
def gf256DividesWrong : ChangeSpec := { name := "gf256Divides", fn := fun _ => fun
  | [d1, d2, d3] => { results := [.lit (.bool false)], args := [d1, d2, d3] }
  | _ => none }
def Gf256DividesWrongFalsely : Prop := gf256DividesRow.holds Try.pinned (OpenSpec.ofChange gf256DividesWrong)

/-- 'masterdisclaw03.Gf256Polynomials': WHATEVER THE INPUT: true; the input reads as it did. -/
def gf256PolynomialsSpec : ChangeSpec := { name := "gf256Polynomials", fn := fun _ => fun
  | [d1, d2, d3, d4] => { results := [.lit (.bool true)], args := [d1, d2, d3, d4] }
  | _ => none }
def gf256PolynomialsRow : OpenClaim := { program := "ytolfbakabpdhbaa", sum := "e462f4d0b2ce4f0256d507f45aea975f3c25ffcef68fab0efb443575744c071d", func := "masterdisc/masterdisclaw03.Gf256Polynomials", spec := "gf256Polynomials", unfollowed := true, recurses := true, apart := false }
def Gf256PolynomialsSaid : Prop := gf256PolynomialsRow.holds Try.pinned (OpenSpec.ofChange gf256PolynomialsSpec)

/-- ITS FALSE NEIGHBOUR: 'it returns false'. Refute it at one input. -/
def gf256PolynomialsWrong : ChangeSpec := { name := "gf256Polynomials", fn := fun _ => fun
  | [d1, d2, d3, d4] => { results := [.lit (.bool false)], args := [d1, d2, d3, d4] }
  | _ => none }
def Gf256PolynomialsWrongFalsely : Prop := gf256PolynomialsRow.holds Try.pinned (OpenSpec.ofChange gf256PolynomialsWrong)

/-- 'masterdisclaw03.Gf256Values': WHATEVER THE INPUT: true; the input reads as it did. -/
def gf256ValuesSpec : ChangeSpec := { name := "gf256Values", fn := fun _ => fun
  | [d1, d2, d3] => { results := [.lit (.bool true)], args := [d1, d2, d3] }
  | _ => none }
def gf256ValuesRow : OpenClaim := { program := "ytolfbakabpdhbaa", sum := "e462f4d0b2ce4f0256d507f45aea975f3c25ffcef68fab0efb443575744c071d", func := "masterdisc/masterdisclaw03.Gf256Values", spec := "gf256Values", unfollowed := true, recurses := true, apart := false }
def Gf256ValuesSaid : Prop := gf256ValuesRow.holds Try.pinned (OpenSpec.ofChange gf256ValuesSpec)

/-- ITS FALSE NEIGHBOUR: 'it returns false'. Refute it at one input. -/
def gf256ValuesWrong : ChangeSpec := { name := "gf256Values", fn := fun _ => fun
  | [d1, d2, d3] => { results := [.lit (.bool false)], args := [d1, d2, d3] }
  | _ => none }
def Gf256ValuesWrongFalsely : Prop := gf256ValuesRow.holds Try.pinned (OpenSpec.ofChange gf256ValuesWrong)

/- THE SECOND FORM. 'bulk': how many values and letters a reading holds, each counted each time it is reached (what is shared counts as often as it is met; a slice's spare places count too). A statement '..UptoSaid' is the law's where the arguments, and the package variables that the reading takes, are together of bulk at most 1048576: NARROWER than '..Said'. Prove '..Said' where nothing that the law and all that it calls make is longer than what came in: it says more and counts as full. Else prove '..UptoSaid'. A law counts once. -/
mutual
def uptoBulk {H : Type} : DataW H → Nat
  | .lit (.string bytes) => bytes.length + 1
  | .lit _ => 1
  | .nil => 1
  | .ptr d => uptoBulk d + 1
  | .slice elems spare => uptoBulkAll elems + uptoBulkAll spare + 1
  | .agg parts => uptoBulkAll parts + 1
  | .iface _ d => uptoBulk d + 1
  | .map entries => uptoBulkEntries entries + 1
  | .held _ => 1
def uptoBulkAll {H : Type} : List (DataW H) → Nat
  | [] => 0
  | d :: r => uptoBulk d + uptoBulkAll r
def uptoBulkEntries {H : Type} : List (Lit × DataW H) → Nat
  | [] => 0
  | x :: r => uptoBulkEntry x + uptoBulkEntries r
def uptoBulkEntry {H : Type} : Lit × DataW H → Nat
  | (.string bytes, d) => bytes.length + uptoBulk d + 1
  | (_, d) => uptoBulk d + 1
 end
def uptoSmall : (H : Type) → List (DataW H) → Bool := fun _ ds => decide (uptoBulkAll ds ≤ 1048576)
def OpenSpec.upto (s : _root_.Go.ChangeSpec) : _root_.Go.OpenSpec := { _root_.Go.OpenSpec.ofChange s with cond := some uptoSmall }

/-- 'masterdisclaw03.Gf256Elements', WHERE WHAT IT READS IS OF BULK AT MOST 1048576: true; the input reads as it did. -/
def gf256ElementsUptoRow : OpenClaim := { program := "ytolfbakabpdhbaa", sum := "e462f4d0b2ce4f0256d507f45aea975f3c25ffcef68fab0efb443575744c071d", func := "masterdisc/masterdisclaw03.Gf256Elements", spec := "gf256Elements", apart := false, narrowed := true }
def Gf256ElementsUptoSaid : Prop := gf256ElementsUptoRow.holds Try.pinned (OpenSpec.upto gf256ElementsSpec)

/-- 'masterdisclaw03.Gf256Field', WHERE WHAT IT READS IS OF BULK AT MOST 1048576: true; the input reads as it did. -/
def gf256FieldUptoRow : OpenClaim := { program := "ytolfbakabpdhbaa", sum := "e462f4d0b2ce4f0256d507f45aea975f3c25ffcef68fab0efb443575744c071d", func := "masterdisc/masterdisclaw03.Gf256Field", spec := "gf256Field", apart := false, narrowed := true }
def Gf256FieldUptoSaid : Prop := gf256FieldUptoRow.holds Try.pinned (OpenSpec.upto gf256FieldSpec)

/-- 'masterdisclaw03.Gf256Powers', WHERE WHAT IT READS IS OF BULK AT MOST 1048576: true; the input reads as it did. -/
def gf256PowersUptoRow : OpenClaim := { program := "ytolfbakabpdhbaa", sum := "e462f4d0b2ce4f0256d507f45aea975f3c25ffcef68fab0efb443575744c071d", func := "masterdisc/masterdisclaw03.Gf256Powers", spec := "gf256Powers", apart := false, narrowed := true }
def Gf256PowersUptoSaid : Prop := gf256PowersUptoRow.holds Try.pinned (OpenSpec.upto gf256PowersSpec)

/-- 'masterdisclaw03.Gf256Roots', WHERE WHAT IT READS IS OF BULK AT MOST 1048576: true; the input reads as it did. -/
def gf256RootsUptoRow : OpenClaim := { program := "ytolfbakabpdhbaa", sum := "e462f4d0b2ce4f0256d507f45aea975f3c25ffcef68fab0efb443575744c071d", func := "masterdisc/masterdisclaw03.Gf256Roots", spec := "gf256Roots", unfollowed := true, recurses := true, apart := false, narrowed := true }
def Gf256RootsUptoSaid : Prop := gf256RootsUptoRow.holds Try.pinned (OpenSpec.upto gf256RootsSpec)

/-- 'masterdisclaw03.Gf256Divides', WHERE WHAT IT READS IS OF BULK AT MOST 1048576: true; the input reads as it did. -/
def gf256DividesUptoRow : OpenClaim := { program := "ytolfbakabpdhbaa", sum := "e462f4d0b2ce4f0256d507f45aea975f3c25ffcef68fab0efb443575744c071d", func := "masterdisc/masterdisclaw03.Gf256Divides", spec := "gf256Divides", apart := false, narrowed := true }
def Gf256DividesUptoSaid : Prop := gf256DividesUptoRow.holds Try.pinned (OpenSpec.upto gf256DividesSpec)

/-- 'masterdisclaw03.Gf256Polynomials', WHERE WHAT IT READS IS OF BULK AT MOST 1048576: true; the input reads as it did. -/
def gf256PolynomialsUptoRow : OpenClaim := { program := "ytolfbakabpdhbaa", sum := "e462f4d0b2ce4f0256d507f45aea975f3c25ffcef68fab0efb443575744c071d", func := "masterdisc/masterdisclaw03.Gf256Polynomials", spec := "gf256Polynomials", unfollowed := true, recurses := true, apart := false, narrowed := true }
def Gf256PolynomialsUptoSaid : Prop := gf256PolynomialsUptoRow.holds Try.pinned (OpenSpec.upto gf256PolynomialsSpec)

/-- 'masterdisclaw03.Gf256Values', WHERE WHAT IT READS IS OF BULK AT MOST 1048576: true; the input reads as it did. -/
def gf256ValuesUptoRow : OpenClaim := { program := "ytolfbakabpdhbaa", sum := "e462f4d0b2ce4f0256d507f45aea975f3c25ffcef68fab0efb443575744c071d", func := "masterdisc/masterdisclaw03.Gf256Values", spec := "gf256Values", unfollowed := true, recurses := true, apart := false, narrowed := true }
def Gf256ValuesUptoSaid : Prop := gf256ValuesUptoRow.holds Try.pinned (OpenSpec.upto gf256ValuesSpec)

end Rows
end Go.Proofs.Ytolfbakabpdhbaa
