/- Parts -/
import Derived.Test.YtfnehkmhcmkhjaaGreatDu06
import Derived.Deep.Cut
import Derived.Deep.CutBlock
import Derived.Deep.DeepCutAuto
set_option maxRecDepth 100000
set_option maxHeartbeats 8000000
set_option linter.unusedVariables false
namespace Go.Proofs.YtfnehkmhcmkhjaaGreat
open Tryz
section
open Go.RowKit
namespace T
theorem okR.bds{cap cl:Int}{l:List ax}{n:Nat}(hc:cap<=449849)(h:∀i,i<n->okR cap cl l i):0<=eB l n/\eB l n<=449849/\1<=sB l n/\sB l n<=16:=by
 have h1:=okR.ends h n (zl _);have h2:=okR.mono h 0 n (by omega);rw[Yf,yV]at h2;cases n with
 |zero=>rw[Df,yV];omega
 | succ n=>
   obtain⟨_,_,_,g4,_,g6,g7,_⟩:=h n (by omega);rw[kY]at h1 ⊢;rw[fV]at h2 ⊢;omega
end T
def KJ(cap cl:Int)(fin:Bool)(l:List T.ax)(w:World)(e:Ending)(w':World):Prop:=e=.returned (.bool (T.az cap cl fin l))/\Below w.heap.size w w'
end
end Go.Proofs.YtfnehkmhcmkhjaaGreat
