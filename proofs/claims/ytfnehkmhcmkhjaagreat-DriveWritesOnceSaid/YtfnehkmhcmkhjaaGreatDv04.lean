/- Parts:XSt XBx XOwn XOpS XStep XInv XQd XTk -/
import Derived.Test.YtfnehkmhcmkhjaaGreatDvAl
import Derived.Test.YtfnehkmhcmkhjaaGreatDv03
import Derived.Deep.MidRow
import Derived.Deep.Fields
import Derived.Deep.Slices
import Derived.ChangeSame
import Derived.Lib.SmallJoins
import Derived.Deep.RegionHeld3
import Derived.Test.YtfnehkmhcmkhjaaGreatChecked
import Derived.Test.YtfnehkmhcmkhjaaGreatDv01
import Derived.Laws.StructEq
import Derived.IntWalk
import Derived.Deep.Cut
import Derived.Outline
set_option maxRecDepth 100000
set_option maxHeartbeats 8000000
set_option linter.unusedVariables false
namespace Go.Proofs.YtfnehkmhcmkhjaaGreat
open Tryz
section
open Go.RowKit
def bK(w:World)(sz:Nat)(v:Value)(n:Nat)(f:Nat->List Value):Prop:=
 ∃a cap b off,v=.slice a n cap/\n<=cap/\∀i,i<n->a=some ⟨b,off,none⟩/\w.rangeAt b (off+i * sz) (f i)
section
variable {w:World} {sz n:Nat} {v:Value} {f:Nat->List Value}
theorem bK.form(h:bK w sz v n f):∃a c,v=.slice a n c/\n<=c:=by obtain⟨a,c,_,_,rfl,hc,_⟩:=h;exact⟨a,c,rfl,hc⟩
theorem bK.keepW{w':World}(h:bK w sz v n f)(hb:∀k,k<w.heap.size->w'.heap[k]? = w.heap[k]?):bK w' sz v n f:=by obtain⟨a,c,b,off,rfl,hc,h⟩:=h;refine⟨a,c,b,off,rfl,hc,fun i hi=>⟨(h i hi).1,fun j u hu=>?_⟩⟩;have e:=(h i hi).2 j u hu;rw[<-e];exact World.cell?_of_block (hb b (zc w _ e))
theorem bK.keep{w':World}(h:bK w sz v n f)(hb:Below w.heap.size w w'):bK w' sz v n f:=h.keepW hb.block
theorem bK.congr{g:Nat->List Value}(h:bK w sz v n f)(hg:∀i,i<n->g i=f i):bK w sz v n g:=by obtain⟨a,c,b,off,rfl,hc,h⟩:=h;exact⟨a,c,b,off,rfl,hc,fun i hi=>by rw[hg i hi]; exact h i hi⟩
theorem bK.nil(w:World)(sz:Nat)(f:Nat->List Value):bK w sz (.slice none 0 0) 0 f:=⟨none,0,0,0,rfl,zl _,fun i hi=>by omega⟩
theorem bK.empty(w:World)(sz:Nat)(a:Option Addr)(c:Nat)(f:Nat->List Value):bK w sz (.slice a 0 c) 0 f:=⟨a,c,0,0,rfl,Nat.zero_le _,fun i hi=>by omega⟩
theorem oZ{f:Nat->List Value}(hf:∀i,(f i).length=sz):∀(n i j:Nat),i<n->j<sz->((List.range n).flatMap f)[i * sz+j]? = (f i)[j]?
 | 0,i,j,hi,hj=>by omega
 | n+1,i,j,hi,hj=>by
   have hL:∀m,((List.range m).flatMap f).length=m * sz:=fun m=>by
    induction m with
    | zero=>simp
    | succ m ih=>rw[List.range_succ,List.flatMap_append,List.length_append,ih]; simp[hf,Nat.succ_mul]
   rw[List.range_succ,List.flatMap_append];by_cases h:i<n
   ·rw[List.getElem?_append_left]
    ·exact oZ hf n i j h hj
    ·rw[hL];have:(i+1) * sz<=n * sz:=Nat.mul_le_mul_right _ h;rw[Nat.succ_mul]at this;omega
   ·obtain rfl:i=n:=by omega
    rw[List.getElem?_append_right (by rw[hL]; omega),hL,Nat.add_sub_cancel_left];simp
theorem pG{f:Nat->List Value}(hf:∀i,(f i).length=sz)(m:Nat):((List.range m).flatMap f).length=m * sz:=by
 induction m with
 | zero=>simp
 | succ m ih=>rw[List.range_succ,List.flatMap_append,List.length_append,ih]; simp[hf,Nat.succ_mul]
theorem bK.bM{base e:Nat}(hf:∀i,(f i).length=sz)(h:w.ownsRow base e sz v n ((List.range n).flatMap f)):bK w sz v n f:=by
 rcases h.2 with ⟨rfl,h0⟩ | ⟨g,cap,cur,rfl,hg,hh,hn,hm,hcs,ht⟩
 ·subst h0; exact bK.nil _ _ _
 ·refine⟨_,cap,g,0,rfl,hn,fun i hi=>⟨rfl,fun j u hu=>?_⟩⟩;have hj:j<sz:=by have:=(List.getElem?_eq_some_iff.1 hu).1; rwa[hf]at this
  rw[Nat.zero_add];have:=h.cells (g:=g) rfl (i * sz+j) u (by rw[oZ hf n i j hi hj]; exact hu);rwa[Addr.add_lit,Nat.zero_add]at this
theorem bK.reads(hf:∀i,(f i).length=sz)(h:bK w sz v n f):Reads w sz v n ((List.range n).flatMap f):=by
 obtain⟨a,c,b,off,rfl,hc,h⟩:=h;refine⟨pG hf n,a,c,b,off,rfl,hc,fun k u hu=>?_⟩;have hk:k<n * sz:=by have:=(List.getElem?_eq_some_iff.1 hu).1; rwa[pG hf]at this
 have hs:0<sz:=by
  rcases Nat.eq_zero_or_pos sz with h0 | h0
  ·rw[h0]at hk; omega
  ·exact h0
 have hi:k / sz<n:=Nat.div_lt_of_lt_mul (by rw[Nat.mul_comm]; exact hk);have hj:k % sz<sz:=Nat.mod_lt _ hs;have e:k / sz * sz+k % sz=k:=by rw[Nat.mul_comm]; exact Nat.div_add_mod k sz
 have hu':(f (k / sz))[k % sz]? = some u:=by rw[<-oZ hf n _ _ hi hj,e]; exact hu
 obtain⟨h1,h2⟩:=h _ hi;refine⟨h1,?_⟩;have:=h2 _ _ hu';rwa[Nat.add_assoc,e]at this
end
section
variable {P:Program} {t e:TypeId}
theorem aH(ht:P.underlying t=some (.slice e)){sz:Nat}(hs:(P.info? e).map (·.size)=some sz){a:Option Addr}{n cap b off k:Nat}(ha:a=some ⟨b,off,none⟩)(hk:k<n)(i:Int)(hi:i=k)(w:World):
 (Instr.indexAt t (.slice a n cap) (.int .i64 i)).run P w=.ok (.pointer (some ⟨b,off+k * sz,none⟩)) w:=by
 subst ha hi;cases hq:P.info? e with
 | none=>simp[hq]at hs
 | some i=>
   have h1:i.size=sz:=by simpa[hq]using hs
   simp[Instr.indexAt,run_underlying ht,asIntOf,sizeOf,typeInfo,hq,h1,hk,Addr.add]
theorem UQ(ht:P.underlying t=some (.slice e)){sz:Nat}(hs:(P.info? e).map (·.size)=some sz){v:Value}{w:World}{n:Nat}{f:Nat->List Value}(h:bK w sz v n f)(hi:Nat)(h2:hi<=n):
 ∃v',bK w sz v' hi f/\∀(x y:Int)(w':World),x=hi->y=hi->(Instr.slice t v none (some (.int .i64 x)) (some (.int .i64 y))).run P w'=.ok v' w':=by
 obtain⟨a,c,b,off,rfl,hc,hcell⟩:=h;cases hq:P.info? e with
 | none=>simp[hq]at hs
 | some i=>
   have hs1:i.size=sz:=by simpa[hq]using hs
   refine⟨.slice a hi hi,⟨a,hi,b,off,rfl,zl _,fun j hj=>hcell j (by omega)⟩,?_⟩;rintro x y w' rfl rfl;have ha:¬ hi=0->Option.map (fun x=>x.add 0) a=a:=fun h0=>by rw[(hcell 0 (by omega)).1]; simp[Addr.add]
   simp[Instr.slice,run_underlying ht,Instr.sliceBounds,run_sliceBound,sizeOf,typeInfo,hq,(by omega:hi<=c)];exact ha
end
def Bx(W:World)(g:Nat)(t:TypeId)(cs:List Value):Prop:=W.heap[g]? = some (.cells cs.toArray t (0,0))
section
variable {W W':World} {g:Nat} {t:TypeId} {cs:List Value}
theorem Bx.lt(h:Bx W g t cs):g<W.heap.size:=(Array.getElem?_eq_some_iff.1 h).1
theorem Bx.wK(h:Bx W g t cs){B:Nat}(hb:Below B W W')(hB:g<B):Bx W' g t cs:=(hb.block g hB).trans h
theorem Bx.call(h:Bx W g t cs)(hb:Below W.heap.size W W'):Bx W' g t cs:=h.wK hb h.lt
theorem Bx.new(W:World)(t:TypeId)(cs:List Value):Bx (W.alloc (.cells cs.toArray t)) W.heap.size t cs:=heap_alloc_new _ _
theorem Bx.alloc(h:Bx W g t cs)(o:Obj):Bx (W.alloc o) g t cs:=h.call ((zB _ _).alloc (zl _) o)
theorem Bx.cell(h:Bx W g t cs){i:Nat}{u:Value}(hu:cs[i]? = some u):W.cell? ⟨g,i,none⟩=some u:=by rw[cell_of_row _ _ _ _ _ _ h]; simpa using hu
theorem Bx.free(h:Bx W g t cs)(i:Nat):W.frozen? ⟨g,i,none⟩=false:=by unfold Bx at h; simp[World.frozen?,h]
theorem Bx.set(h:Bx W g t cs)(i:Nat)(u:Value):Bx (W.setCell ⟨g,i,none⟩ u) g t (cs.set i u):=by unfold Bx at h ⊢;simp[World.setCell,Array.getElem?_modify,h]
theorem Bx.far(h:Bx W g t cs){p:Addr}(hp:p.block≠g)(u:Value):Bx (W.setCell p u) g t cs:=(zh W p u g (Ne.symm hp)).trans h
theorem Bx.bM{base e:Nat}{n sz:Nat}(h:W.ownsRow base e sz (.slice (some ⟨g,0,none⟩) n n) n cs):Bx W g e cs:=by
 rcases h.2 with ⟨h0,_⟩ | ⟨g',cap,cur,hv,hg,hh,hn,hm,hc,ht⟩
 ·simp at h0
 ·simp only[Value.slice.injEq,Option.some.injEq,Addr.mk.injEq,and_true,true_and]at hv;obtain⟨rfl,rfl⟩:=hv;unfold Bx;rw[hh,<-ht,List.take_of_length_le (by rw[Array.length_toList,hc]; exact zl _)]
end
def bF{α:Type}(d:α)(l:List α)(i:Nat):α:=(l[i]?).getD d
def fK{α:Type}(D:α->List Value)(l:List α):List Value:=l.flatMap D
def dX{α:Type}(d:α)(D:α->List Value)(sz:Nat)(w:World)(v:Value)(l:List α):Prop:=bK w sz v l.length fun i=>D (bF d l i)
section
variable {α:Type} {d:α} {D:α->List Value} {sz:Nat}
theorem bQ(l:List α)(x:α)(k:Nat)(h:k<l.length):bF d (l.set k x) k=x:=by simp[bF,h]
theorem rP(l:List α)(x:α)(i k:Nat)(h:i≠k):bF d (l.set k x) i=bF d l i:=by simp[bF,List.getElem?_set_ne (Ne.symm h)]
theorem tq{l:List α}{i:Nat}(h:i<l.length):bF d l i ∈ l:=by simp[bF,h]
theorem JA(d:α)(l:List α):(List.range l.length).flatMap (fun i=>D (bF d l i))=fK D l:=by
 unfold fK;have h:l=(List.range l.length).map (bF d l):=by
  apply List.ext_getElem
  ·simp
  ·intro i h1 h2;simp[bF,h1]
 conv=>rhs; rw[h]
 rw[List.flatMap_map]
theorem rY(l m:List α):fK D (l++m)=fK D l++fK D m:=by simp[fK]
theorem yI(x:α):fK D [x]=D x:=by simp[fK]
theorem Xd(h:∀x,∀u ∈ D x,u.oneCell'=true)(l:List α):∀u ∈ fK D l,u.oneCell'=true:=by intro u hu;simp only[fK,List.mem_flatMap]at hu;obtain⟨x,_,hu⟩:=hu;exact h x u hu
theorem iM(hD:∀x,(D x).length=sz)(l:List α):(fK D l).length=l.length * sz:=by
 induction l with
 | nil=>simp[fK]
 | cons x l ih=>
   have e:fK D (x :: l)=D x++fK D l:=by simp[fK]
   rw[e,List.length_append,ih,hD,List.length_cons,Nat.succ_mul]; omega
theorem tN(hD:∀x,(D x).length=sz)(l:List α)(i j:Nat)(hi:i<l.length)(hj:j<sz):(fK D l)[i * sz+j]? = (D (bF d l i))[j]?:=by rw[<-JA d]; exact oZ (fun _=>hD _) _ i j hi hj
theorem MC(hD:∀x,(D x).length=sz)(l:List α)(i j:Nat)(hi:i<l.length)(hj:j<sz)(v:Value)(x:α)(hx:D x=(D (bF d l i)).set j v):(fK D l).set (i * sz+j) v=fK D (l.set i x):=by
 have hl:(l.set i x).length=l.length:=by simp
 have hs:0<sz:=by omega
 have hij:i * sz+j<l.length * sz:=by have:(i+1) * sz<=l.length * sz:=Nat.mul_le_mul_right _ hi;rw[Nat.succ_mul]at this; omega
 apply List.ext_getElem?;intro k;by_cases hk:k<l.length * sz
 ·have e:k / sz * sz+k % sz=k:=by rw[Nat.mul_comm]; exact Nat.div_add_mod k sz
  have hki:k / sz<l.length:=Nat.div_lt_of_lt_mul (by rw[Nat.mul_comm]; exact hk);have hkj:k % sz<sz:=Nat.mod_lt _ hs;have h2:=tN (d:=d) hD (l.set i x) (k / sz) (k % sz) (by rw[hl]; exact hki) hkj;rw[e]at h2;rw[h2,List.getElem?_set];by_cases h:i * sz+j=k
  ·rw[zj h,zj (by rw[iM hD]; exact hij)];have h3:k / sz=i:=by rw[<-h,Nat.mul_comm,Nat.mul_add_div hs,Nat.div_eq_of_lt hj,Nat.add_zero]
   have h4:k % sz=j:=by rw[<-h,Nat.mul_comm,Nat.mul_add_mod,Nat.mod_eq_of_lt hj]
   rw[h3,h4,bQ _ _ _ hi,hx,List.getElem?_set,zj rfl,zj (by rw[hD]; exact hj)]
  ·rw[zi h];have h1:=tN (d:=d) hD l (k / sz) (k % sz) hki hkj;rw[e]at h1;rw[h1];by_cases h5:k / sz=i
   ·have h6:j≠k % sz:=fun h7=>h (by rw[h7,<-h5]; exact e)
    rw[h5,bQ _ _ _ hi,hx,List.getElem?_set,zi h6]
   ·rw[rP _ _ _ _ h5]
 ·rw[List.getElem?_eq_none (by rw[List.length_set,iM hD]; omega),List.getElem?_eq_none (by rw[iM hD,hl]; omega)]
variable {w w':World} {v:Value} {l:List α} {base e:Nat}
theorem dX.form(h:dX d D sz w v l):∃a c,v=.slice a l.length c/\l.length<=c:=bK.form h
theorem dX.keep(h:dX d D sz w v l)(hb:Below w.heap.size w w'):dX d D sz w' v l:=bK.keep h hb
theorem dX.nil(w:World):dX d D sz w (.slice none 0 0) []:=bK.nil _ _ _
theorem dX.bM(hD:∀x,(D x).length=sz)(h:w.ownsRow base e sz v l.length (fK D l)):dX d D sz w v l:=by rw[<-JA d]at h;exact bK.bM (fun _=>hD _) h
theorem dX.reads(hD:∀x,(D x).length=sz)(h:dX d D sz w v l):Reads w sz v l.length (fK D l):=by have:=bK.reads (fun _=>hD _) h;rwa[JA]at this
theorem dX.at{a:Option Addr}{n c:Nat}(h:dX d D sz w (.slice a n c) l):∃b off,∀i,i<l.length->a=some ⟨b,off,none⟩/\w.rangeAt b (off+i * sz) (D (bF d l i)):=by
 obtain⟨a',c',b,off,hv,_,hcell⟩:=h;injection hv with e1 e2 e3
 subst e1;exact⟨b,off,hcell⟩
theorem qF{n:Nat}{xs:List Value}(h:w.ownsRow base e sz v n xs)(hn:0<n):∃g c,v=.slice (some ⟨g,0,none⟩) n c/\base<=g/\g<w.heap.size:=by
 rcases h.2 with ⟨_,h0⟩ | ⟨g,cap,cur,hv,hb,hg,_⟩
 ·omega
 ·exact⟨g,cap,hv,hb,(Array.getElem?_eq_some_iff.1 hg).1⟩
theorem bu{n:Nat}{xs:List Value}(h:w.ownsRow base e sz v n xs):∃a c,v=.slice a n c:=by
 rcases h.2 with ⟨rfl,h0⟩ | ⟨g,cap,cur,hv,hb,hg,_⟩
 ·exact⟨none,0,by rw[h0]⟩
 ·exact⟨_,cap,hv⟩
theorem JV(hD:∀x,(D x).length=sz){g n c:Nat}(h:w.ownsRow base e sz (.slice (some ⟨g,0,none⟩) n c) n (fK D l))(i:Nat)(hi:i<l.length):w.rangeAt g (i * sz) (D (bF d l i)):=fun j u hu=>by
 have hj:j<sz:=by have:=(List.getElem?_eq_some_iff.1 hu).1; rwa[hD]at this
 have hn:l.length * sz=n * sz:=by have:=h.1; rw[iM hD]at this; exact this
 have hij:i * sz+j<l.length * sz:=by have:(i+1) * sz<=l.length * sz:=Nat.mul_le_mul_right _ hi;rw[Nat.succ_mul]at this; omega
 rw[h.cellAt (i * sz+j) (by omega),tN (d:=d) hD l i j hi hj]; exact hu
theorem Uj(hD:∀x,(D x).length=sz){g n c:Nat}(h:w.ownsRow base e sz (.slice (some ⟨g,0,none⟩) n c) n (fK D l))(i j:Nat)(hi:i<l.length)(hj:j<sz)(u:Value)(x:α)(hx:D x=(D (bF d l i)).set j u):
 (w.setCell ⟨g,i * sz+j,none⟩ u).ownsRow base e sz (.slice (some ⟨g,0,none⟩) n c) n (fK D (l.set i x)):=by
 have:=(h.stored (i * sz+j) u).1;rwa[MC hD l i j hi hj u x hx]at this
theorem kW{n:Nat}{xs:List Value}(h:w.ownsRow base e sz v n xs){p:Addr}(hp:p.block<base)(u:Value):(w.setCell p u).ownsRow base e sz v n xs:=by
 refine⟨h.1,?_⟩;rcases h.2 with h | ⟨g,cap,cur,hv,hg,hh,r⟩
 ·exact .inl h
 ·exact .inr ⟨g,cap,cur,hv,hg,(zh w p u g (by omega)).trans hh,r⟩
theorem bz{n:Nat}{xs:List Value}(h:w.ownsRow base e sz v n xs)(hb:Below w.heap.size w w'):w'.ownsRow base e sz v n xs:=by
 refine⟨h.1,?_⟩;rcases h.2 with h | ⟨g,cap,cur,hv,hg,hh,r⟩
 ·exact .inl h
 ·exact .inr ⟨g,cap,cur,hv,hg,(hb.block g (Array.getElem?_eq_some_iff.1 hh).1).trans hh,r⟩
theorem dP{n:Nat}{xs:List Value}(h:w.ownsRow base e sz v n xs):∀k,v.ownBlock=some k->base<=k:=by
 intro k hk;rcases h.2 with ⟨rfl,_⟩ | ⟨g,cap,cur,rfl,hb,_⟩
 ·simp[Value.ownBlock]at hk
 ·have:g=k:=by simpa[Value.ownBlock]using hk
  omega
theorem lM{n:Nat}{xs:List Value}(h:w.ownsRow base e sz v n xs):∀k,v.ownBlock=some k->k<w.heap.size:=by
 intro k hk;rcases h.2 with ⟨rfl,_⟩ | ⟨g,cap,cur,rfl,hb,hg,_⟩
 ·simp[Value.ownBlock]at hk
 ·have:g=k:=by simpa[Value.ownBlock]using hk
  exact this ▸ (Array.getElem?_eq_some_iff.1 hg).1
end
end
section
open Go.ChangeShapes Go.WideShapes Go.RowKit Go.Deep
def In64(a:Int):Prop:=-9223372036854775808<=a/\a<=9223372036854775807
theorem Xy{a:Int}(h:(Lit.int .i64 a).wf=true):In64 a:=by simpa[Lit.wf,IntKind.min,IntKind.max,IntKind.signed,IntKind.bits,In64]using h
section
variable {H:Type} {enc:TypeId×Value->H} {P:Program} {w:World} {base b0:Nat} {sp:Nat->Bool} {held:Bool}
theorem fM{t:TypeId}{n:Nat}{cs:List Value}{y:Option (DataW H×List MemPlace)}(ht:P.underlying t=some (.int .i64))(h:DataW.trod enc P w base sp held n t cs=y)(hy:y≠none):∃a,cs = [.int .i64 a]/\In64 a:=by
 cases y with
 | none=>exact(hy rfl).elim
 | some y=>
   obtain⟨a,h1,_,h2⟩:=DataW.trod_int ht h;exact⟨a,h1,Xy h2⟩
theorem eU{α:Type}{xs:List α}{n i:Nat}(h:xs.length=n)(hi:i<n):xs[i]?≠none:=by rw[List.getElem?_eq_getElem (by omega)]; simp
theorem pM{α:Type}(d:α)(D:α->List Value)(Q:α->Prop){t e:TypeId}{sz:Nat}(ht:P.underlying t=some (.slice e))(hC:P.cellsOf e=sz)(hs:0<sz)
 (hE:∀n cs x,DataW.trod enc P w base sp held n e cs=some x->∃a:α,cs=D a/\Q a){n:Nat}{v:Value}{x:DataW H×List MemPlace}(hd:DataW.trod enc P w base sp held n t [v]=some x):
 ∃l:List α,bK w sz v l.length (fun i=>D ((l[i]?).getD d))/\l.length<=9223372036854775807/\∀i,i<l.length->Q ((l[i]?).getD d):=by
 rcases open_slice ht hd with ⟨hcs,_⟩ | ⟨a,len,cap,m,n',Dd,Pl,hcs,hb,hl,hm,hmm,hx,hi⟩
 ·simp only[List.cons.injEq,and_true]at hcs;subst hcs;exact⟨[],bK.nil _ _ _,by simp,fun i hi=>by simp at hi⟩
 ·simp only[List.cons.injEq,and_true]at hcs;subst hcs;rw[hC]at hi;by_cases h0:len=0
  ·subst h0;exact⟨[],bK.empty _ _ _ _ _,by simp,fun i hi=>by simp at hi⟩
  obtain⟨ab,ao,asp⟩:=a;have hle:len<=m:=by rw[hmm]; split <;> omega
  obtain rfl:asp=none:=by
   obtain⟨cs',h1,h2⟩:=hi 0 (by omega);obtain⟨_,hL,hc⟩:=World.cells?_some h1;have e:=hc 0 hs;rw[List.getElem?_eq_getElem (by omega),Nat.zero_mul]at e;cases asp with
   | none=>rfl
   | some s=>unfold World.cell? at e; split at e <;> simp[Addr.add]at e
  have key:∀i,∃z:α,i<len->Q z/\w.rangeAt ab (ao+i * sz) (D z):=fun i=>by
   by_cases h:i<len
   ·obtain⟨cs',h1,h2⟩:=hi i (by omega);obtain⟨z,rfl,hq⟩:=hE _ _ _ h2;obtain⟨_,hL,hc⟩:=World.cells?_some h1;refine⟨z,fun _=>⟨hq,fun j u hu=>?_⟩⟩;have hj:j<sz:=by have:=(List.getElem?_eq_some_iff.1 hu).1; omega
    have e:=hc j hj;rw[hu,Addr.add_lit,Addr.add_lit]at e;exact e
   ·exact⟨d,fun h'=>absurd h' h⟩
  obtain⟨f,hf⟩:∃f:Nat->α,∀i,i<len->Q (f i)/\w.rangeAt ab (ao+i * sz) (D (f i)):=⟨fun i=>Classical.choose (key i),fun i=>Classical.choose_spec (key i)⟩;have hL:((List.range len).map f).length=len:=by simp
  have hG:∀i,i<len->(((List.range len).map f)[i]?).getD d=f i:=fun i h=>by simp[h]
  refine⟨(List.range len).map f,⟨some ⟨ab,ao,none⟩,cap,ab,ao,by rw[hL],by rw[hL]; exact hl,fun i h=>?_⟩,by rw[hL]; unfold maxLen at hm; omega,fun i h=>?_⟩
  ·rw[hL]at h;simp only[hG i h];exact⟨trivial,(hf i h).2⟩
  ·rw[hL]at h;rw[hG i h];exact(hf i h).1
end
end
section
open Go.RowKit
section
variable {α:Type} {d:α} {D:α->List Value} {sz:Nat}
end
def jl(r:Option Nat)(w W:World):Prop:=w.heap.size<=W.heap.size/\∀k,k<w.heap.size->some k≠r->W.heap[k]? = w.heap[k]?
section
variable {r:Option Nat} {w W W':World}
theorem jl.refl(r:Option Nat)(w:World):jl r w w:=⟨zl _,fun _ _ _=>rfl⟩
theorem jl.call(h:jl r w W)(hb:Below W.heap.size W W'):jl r w W':=⟨zT h.1 hb.size,fun k h1 h2=>(hb.block k (zL h1 h.1)).trans (h.2 k h1 h2)⟩
end
section
variable {P:Program} {Q:Exit->Act->World->Prop}
def eP(l:List Oper)(t:Tmp):Bool:=l.all fun o=>o.dst != some t
theorem IY(tm:Array Value)(n:Nat)(h:tm.size=n):tm=((List.range n).map fun i=>tm.getD i undef).toArray:=by
 apply Array.ext
 ·simp[h]
 ·intro i h1 h2;simp[Array.getD,h1]
def left(n:Nat)(listed:Array Bool):Nat:=((List.range n).filter fun i=>!listed.getD i true).length
theorem ed{n i:Nat}{listed:Array Bool}(hn:listed.size=n)(hi:listed.getD i true=false):left n (listed.setIfInBounds i true)<left n listed:=by
 unfold left;have hil:i<listed.size:=by
  rcases Nat.lt_or_ge i listed.size with h | h
  ·exact h
  ·simp[Array.getD,Nat.not_lt.2 h]at hi
 have e:(List.range n).filter (fun j=>!(listed.setIfInBounds i true).getD j true)=((List.range n).filter fun j=>!listed.getD j true).filter (fun j=>decide (j≠i)):=by
  rw[List.filter_filter];refine List.filter_congr fun j hj=>?_
  by_cases hji:i=j
  ·subst hji; simp[hil]
  ·rw[getD_set_ne true hji]; simp[Ne.symm hji]
 rw[e];refine List.length_filter_lt_length_iff_exists.2 ⟨i,List.mem_filter.2 ⟨List.mem_range.2 (by omega),by simp[hi]⟩,by simp⟩
theorem dY{a:Act}{t:Tmp}{v:Value}(h:t<a.tmps.size):(a.put (some t) v).tmps.getD t undef=v:=by simp[Act.put,Array.getD,h]
theorem aT{a:Act}{d:Option Tmp}{t:Tmp}{v:Value}(h:d≠some t):(a.put d v).tmps.getD t undef=a.tmps.getD t undef:=by
 cases d with
 | none=>rfl
 | some d=>
   have hne:d≠t:=fun e=>h (by rw[e])
   simp[Act.put,Array.getElem?_setIfInBounds_ne hne]
theorem iF{a:Act}{d:Option Tmp}{v:Value}:(a.put d v).tmps.size=a.tmps.size:=by cases d <;> simp[Act.put]
theorem put_defers{a:Act}{d:Option Tmp}{v:Value}:(a.put d v).defers=a.defers:=by cases d <;> simp[Act.put]
theorem aU{listed:Array Bool}{i j:Nat}(h:(listed.setIfInBounds i true).getD j false=true):j=i\/listed.getD j false=true:=by
 by_cases e:j=i
 ·exact .inl e
 ·rw[getD_set_ne false (Ne.symm e)]at h; exact .inr h
end
end
namespace xA
open Go.RowKit
def RB(b:Bool)(w:World)(e:Ending)(w':World):Prop:=e=.returned (.bool b)/\Below w.heap.size w w'
end xA
section
open Go.RowKit
def jy(x:T.az):List Value:=[.int .i64 x.num,.int .i64 x.bP,.int .i64 x.st,.int .i64 x.len,.int .i64 x.nx,.int .i64 x.cZ,.int .i64 x.pk]
theorem fA(x:T.az):(jy x).length=7:=rfl
def aW(w:World)(v:Value)(l:List T.az):Prop:=bK w 7 v l.length fun i=>jy (T.tr l i)
theorem aW.keep{w w':World}{v:Value}{l:List T.az}(h:aW w v l)(hb:Below w.heap.size w w'):aW w' v l:=bK.keep h hb
theorem xO{w:World}{b o:Nat}{x:T.az}(h:w.rangeAt b o (jy x)):
 w.cell? ⟨b,o,none⟩=some (.int .i64 x.num)/\w.cell? ⟨b,o+1,none⟩=some (.int .i64 x.bP)/\w.cell? ⟨b,o+2,none⟩=some (.int .i64 x.st)/\w.cell? ⟨b,o+3,none⟩=some (.int .i64 x.len)/\
 w.cell? ⟨b,o+4,none⟩=some (.int .i64 x.nx)/\w.cell? ⟨b,o+5,none⟩=some (.int .i64 x.cZ)/\w.cell? ⟨b,o+6,none⟩=some (.int .i64 x.pk):=
 ⟨h 0 _ rfl,h 1 _ rfl,h 2 _ rfl,h 3 _ rfl,h 4 _ rfl,h 5 _ rfl,h 6 _ rfl⟩
theorem aW.nil(w:World):aW w (.slice none 0 0) []:=bK.nil _ _ _
def sm(a:Int):Prop:=-1099511627776<=a/\a<=1099511627776
def uB(x:T.az):Prop:=sm x.num/\sm x.bP/\sm x.st/\sm x.len/\sm x.nx/\sm x.cZ/\sm x.pk
def nC(l:List T.az):Prop:=l.length<=110/\∀i,i<l.length->uB (T.tr l i)
namespace T
instance (cap cl:Int) (l:List az) (i:Nat):Decidable (okR cap cl l i):=by unfold okR; infer_instance
instance (cap cl:Int) (fin:Bool) (l:List az):Decidable (aQ cap cl fin l):=by unfold aQ; infer_instance
def aF(cap cl:Int)(fin:Bool)(l:List az):Bool:=decide (aQ cap cl fin l)
theorem ay{cap cl:Int}{fin:Bool}{l:List az}:aF cap cl fin l=true↔aQ cap cl fin l:=by unfold aF; exact decide_eq_true_iff
theorem bJ{cap cl:Int}{fin:Bool}{l:List az}:aF cap cl fin l=false↔¬ aQ cap cl fin l:=by unfold aF; exact decide_eq_false_iff_not
end T
theorem sizeTrack:(prog.info? 94).map (·.size)=some 7:=by kernel_rfl
theorem oP(c:Int)(w:World):
 Calls prog 214 #[.int .i64 c] w fun e w'=>e=.returned (.bool (decide (1<=c/\c<=449849)))/\w=w':=by
 by_cases h1:1<=c
 ·by_cases h2:c<=449849
  ·go_enter func214,ntmps214;go_wp2;go_ret;exact⟨fQ (by simp[h1,h2]),rfl⟩
  ·go_enter func214,ntmps214;go_wp2;go_ret;exact⟨fQ (by simp[h2]),rfl⟩
 ·have hd:decide (1<=c)=false:=by simp; omega
  go_enter func214,ntmps214;go_wp2;go_ret;exact⟨fQ (by simp),rfl⟩
end
end Go.Proofs.YtfnehkmhcmkhjaaGreat
