/- Short names of the kit's lemmas, for the texts of this claim -/
import Derived.Outline
import Derived.Deep.DeepMust
import Derived.ChangeAlike
import Derived.Lib.Hide
set_option linter.defProp false
namespace Go.Proofs.YtfnehkmhcmkhjaaGreat
open Go Go.RowKit
theorem zH {p:Prop} (h:p):Hid p:=Lib.hid h
def zB:=@Below.refl
def zl:=@Nat.le_refl
def zr:=@bodyPost_ret
def zi:=@if_neg
def zj:=@if_pos
def zt:=@decide_eq_true
def zf:=@decide_eq_false
def zs:=@Option.some.inj
def zc:=@World.block_lt_of_cell?
def zT:=@Nat.le_trans
def zL:=@Nat.lt_of_lt_of_le
def zh:=@Below.heap_setCell
theorem zq {α:Type} {a:Array α} {i:Nat} {d v:α} (h:a.getD i d=v):a[i]?.getD d=v:=by rw [← Array.getD_eq_getD_getElem?]; exact h
theorem zV {t:Array Value} (i:Nat) (v:Value) (h:t.getD i undef=v):t.getD i undef=v:=h
end Go.Proofs.YtfnehkmhcmkhjaaGreat
