/- Parts -/
import Derived.Test.YtfnehkmhcmkhjaaGreatDu04
import Derived.Deep.MidRow
import Derived.Deep.Fields
import Derived.Deep.Slices
import Derived.ChangeSame
import Derived.Deep.RegionHeld3
import Derived.Test.YtfnehkmhcmkhjaaGreatDu02
import Derived.Laws.StructEq
import Derived.IntWalk
import Derived.Outline
set_option maxRecDepth 100000
set_option maxHeartbeats 8000000
set_option linter.unusedVariables false
namespace Go.Proofs.YtfnehkmhcmkhjaaGreat
open Tryz
section
open Go.RowKit
def dU(w:World)(sz:Nat)(v:Value)(n:Nat)(f:Nat->List Value):Prop:=
 ∃a cap b off,v=.slice a n cap/\n<=cap/\∀i,i<n->a=some ⟨b,off,none⟩/\w.rangeAt b (off+i*sz) (f i)
section
variable {w:World} {sz n:Nat} {v:Value} {f:Nat->List Value}
theorem dU.form(h:dU w sz v n f):∃a c,v=.slice a n c/\n<=c:=by obtain⟨a,c,_,_,rfl,hc,_⟩:=h;exact⟨a,c,rfl,hc⟩
theorem dU.keepW{w':World}(h:dU w sz v n f)(hb:∀k,k<w.heap.size->w'.heap[k]? = w.heap[k]?):dU w' sz v n f:=by obtain⟨a,c,b,off,rfl,hc,h⟩:=h;refine⟨a,c,b,off,rfl,hc,λi hi=>⟨(h i hi).1,λj u hu=>?_⟩⟩;have e:=(h i hi).2 j u hu;rw[<-e];exact XC (hb b (zc w _ e))
theorem dU.keep{w':World}(h:dU w sz v n f)(hb:Below w.heap.size w w'):dU w' sz v n f:=h.keepW hb.block
theorem dU.congr{g:Nat->List Value}(h:dU w sz v n f)(hg:∀i,i<n->g i=f i):dU w sz v n g:=by obtain⟨a,c,b,off,rfl,hc,h⟩:=h;exact⟨a,c,b,off,rfl,hc,λi hi=>by rw[hg i hi];exact h i hi⟩
theorem dU.nil(w:World)(sz:Nat)(f:Nat->List Value):dU w sz (.slice none 0 0) 0 f:=⟨none,0,0,0,rfl,zl _,λi hi=>by omega⟩
theorem dU.empty(w:World)(sz:Nat)(a:Option Addr)(c:Nat)(f:Nat->List Value):dU w sz (.slice a 0 c) 0 f:=⟨a,c,0,0,rfl,Xx _,λi hi=>by omega⟩
theorem tX{f:Nat->List Value}(hf:∀i,(f i).length=sz):∀(n i j:Nat),i<n->j<sz->((List.range n).flatMap f)[i*sz+j]? = (f i)[j]?
 |0,i,j,hi,hj=>by omega
 | n+1,i,j,hi,hj=>by
   have hL:∀m,((List.range m).flatMap f).length=m*sz:=λm=>by
    induction m with
    |zero=>simp
    |succ m ih=>rw[Xf,Vk,Yb,ih];simp[hf,Nat.succ_mul]
   rw[Xf,Vk];by_cases h:i<n
   ·rw[YY]
    ·exact tX hf n i j h hj
    ·rw[hL];have:(i+1)*sz<=n*sz:=XA _ h;rw[Nat.succ_mul]at this;omega
   ·obtain rfl:i=n:=by omega
    rw[Xg (by rw[hL];omega),hL,Nat.add_sub_cancel_left];simp
theorem ui{f:Nat->List Value}(hf:∀i,(f i).length=sz)(m:Nat):((List.range m).flatMap f).length=m*sz:=by
 induction m with
 |zero=>simp
 |succ m ih=>rw[Xf,Vk,Yb,ih];simp[hf,Nat.succ_mul]
theorem dU.bg{base e:Nat}(hf:∀i,(f i).length=sz)(h:w.ownsRow base e sz v n ((List.range n).flatMap f)):dU w sz v n f:=by
 rcases h.2 with ⟨rfl,h0⟩|⟨g,cap,cur,rfl,hg,hh,hn,hm,hcs,ht⟩
 ·subst h0;exact dU.nil _ _ _
 ·refine⟨_,cap,g,0,rfl,hn,λi hi=>⟨rfl,λj u hu=>?_⟩⟩;have hj:j<sz:=by have:=(Yr.1 hu).1;rwa[hf]at this
  rw[Yf];have:=h.cells (g:=g) rfl (i*sz+j) u (by rw[tX hf n i j hi hj];exact hu);rwa[XF,Yf]at this
theorem dU.reads(hf:∀i,(f i).length=sz)(h:dU w sz v n f):Reads w sz v n ((List.range n).flatMap f):=by
 obtain⟨a,c,b,off,rfl,hc,h⟩:=h;refine⟨ui hf n,a,c,b,off,rfl,hc,λk u hu=>?_⟩;have hk:k<n*sz:=by have:=(Yr.1 hu).1;rwa[ui hf]at this
 have hs:0<sz:=by
  rcases Nat.eq_zero_or_pos sz with h0|h0
  ·rw[h0]at hk;omega
  ·exact h0
 have hi:k/sz<n:=Nat.div_lt_of_lt_mul (by rw[XI];exact hk);have hj:k%sz<sz:=Nat.mod_lt _ hs;have e:k/sz*sz+k%sz=k:=by rw[XI];exact Nat.div_add_mod k sz
 have hu':(f (k/sz))[k%sz]? = some u:=by rw[<-tX hf n _ _ hi hj,e];exact hu
 obtain⟨h1,h2⟩:=h _ hi;refine⟨h1,?_⟩;have:=h2 _ _ hu';rwa[XD,e]at this
end
section
variable {P:Program} {t e:TypeId}
theorem aB(ht:P.underlying t=some (.slice e)){sz:Nat}(hs:(P.info? e).map (·.size)=some sz){a:Option Addr}{n cap b off k:Nat}(ha:a=some ⟨b,off,none⟩)(hk:k<n)(i:Int)(hi:i=k)(w:World):
 (Instr.indexAt t (.slice a n cap) (.int .i64 i)).run P w=.ok (.pointer (some ⟨b,off+k*sz,none⟩)) w:=by
 subst ha hi;cases hq:P.info? e with
 |none=>simp[hq]at hs
 | some i=>
   have h1:i.size=sz:=by simpa[hq]using hs
   simp[Instr.indexAt,YH ht,asIntOf,sizeOf,typeInfo,hq,h1,hk,Addr.add]
theorem aeF(ht:P.underlying t=some (.slice e)){sz:Nat}(hs:(P.info? e).map (·.size)=some sz){v:Value}{w:World}{n:Nat}{f:Nat->List Value}(h:dU w sz v n f)(hi:Nat)(h2:hi<=n):
 ∃v',dU w sz v' hi f/\∀(x y:Int)(w':World),x=hi->y=hi->(Instr.slice t v none (some (.int .i64 x)) (some (.int .i64 y))).run P w'=.ok v' w':=by
 obtain⟨a,c,b,off,rfl,hc,hcell⟩:=h;cases hq:P.info? e with
 |none=>simp[hq]at hs
 | some i=>
   have hs1:i.size=sz:=by simpa[hq]using hs
   refine⟨.slice a hi hi,⟨a,hi,b,off,rfl,zl _,λj hj=>hcell j (by omega)⟩,?_⟩;rintro x y w' rfl rfl;have ha:¬ hi=0->Option.map (λx=>x.add 0) a=a:=λh0=>by rw[(hcell 0 (by omega)).1];simp[Addr.add]
   simp[Instr.slice,YH ht,Instr.sliceBounds,run_sliceBound,sizeOf,typeInfo,hq,(by omega:hi<=c)];exact ha
end
def Bx(W:World)(g:Nat)(t:TypeId)(cs:List Value):Prop:=W.heap[g]? = some (.cells cs.toArray t (0,0))
section
variable {W W':World} {g:Nat} {t:TypeId} {cs:List Value}
theorem Bx.lt(h:Bx W g t cs):g<W.heap.size:=(Yd.1 h).1
theorem Bx.jm(h:Bx W g t cs){B:Nat}(hb:Below B W W')(hB:g<B):Bx W' g t cs:=(hb.block g hB).trans h
theorem Bx.call(h:Bx W g t cs)(hb:Below W.heap.size W W'):Bx W' g t cs:=h.jm hb h.lt
theorem Bx.new(W:World)(t:TypeId)(cs:List Value):Bx (W.alloc (.cells cs.toArray t)) W.heap.size t cs:=Xl _ _
theorem Bx.alloc(h:Bx W g t cs)(o:Obj):Bx (W.alloc o) g t cs:=h.call ((zB _ _).alloc (zl _) o)
theorem Bx.cell(h:Bx W g t cs){i:Nat}{u:Value}(hu:cs[i]? = some u):W.cell? ⟨g,i,none⟩=some u:=by rw[Xd _ _ _ _ _ _ h];simpa using hu
theorem Bx.free(h:Bx W g t cs)(i:Nat):W.frozen? ⟨g,i,none⟩=false:=by unfold Bx at h;simp[World.frozen?,h]
theorem Bx.set(h:Bx W g t cs)(i:Nat)(u:Value):Bx (W.setCell ⟨g,i,none⟩ u) g t (cs.set i u):=by unfold Bx at h ⊢;simp[World.setCell,Array.getElem?_modify,h]
theorem Bx.far(h:Bx W g t cs){p:Addr}(hp:p.block≠g)(u:Value):Bx (W.setCell p u) g t cs:=(zh W p u g (Vb hp)).trans h
theorem Bx.bg{base e:Nat}{n sz:Nat}(h:W.ownsRow base e sz (.slice (some ⟨g,0,none⟩) n n) n cs):Bx W g e cs:=by
 rcases h.2 with ⟨h0,_⟩|⟨g',cap,cur,hv,hg,hh,hn,hm,hc,ht⟩
 ·simp at h0
 ·simp only[YT,YA,Addr.mk.injEq,and_true,true_and]at hv;obtain⟨rfl,rfl⟩:=hv;unfold Bx;rw[hh,<-ht,YE (by rw[Array.length_toList,hc];exact zl _)]
end
def bb(l:List Bool):List Value:=l.map Value.bool
theorem KR{l:List Bool}{i:Nat}{b:Bool}(h:l[i]? = some b):(bb l)[i]? = some (.bool b):=by simp[bb,h]
theorem ab7(l:List Bool)(i:Nat)(b:Bool):(bb l).set i (.bool b)=bb (l.set i b):=by simp[bb]
theorem vX{P:Program}{w:World}{ops:Array Oper}{rest:List Oper}{o:Oper}{a:Act}{Q:Exit->Act->World->Prop}
 (hg:o.guard=none)(l c:Operand){t:TypeId}(hop:o.op=Op.makeSlice t l c)
 {e:TypeId}(h1:P.underlying t=some (.slice e))(h2:(P.info? e).map (λi=>(i.zero,i.size,i.bytes))=some (some (.bool false),1,1))
 {L C:Int}(n:Nat)(hl:a.eval l=.int .i64 L)(hc:a.eval c=.int .i64 C)(hL:L=(n:Int))(hC:C=(n:Int))(b3:n<=281474976710656)
 (hK:∀w',Bx w' w.heap.size e (bb (List.replicate n false))->Below w.heap.size w w'->wpList P ops Q rest (a.put o.dst (.slice (some ⟨w.heap.size,0,none⟩) n n)) w'):
 wpList P ops Q (o::rest) a w:=by
 obtain⟨i0,hi,hz0,hz1,hz2⟩:=info_parts h2;refine wpList_make_full w hg l c t hop w.heap.size e i0 _ 1 h1 hi hz0 hz1 .i64 .i64 L C n hl hc hL hC (by rw[hz2];omega) (by unfold maxLen;omega) (zl _) λw' h3 h4=>hK w' ?_ ((zB _ _).grown h4 (zl _) (λk hk=>by cases hk))
 have e1:(madeCells (Value.bool false).cells (n*1)).toList=bb (List.replicate n false):=by simp only[Value.cells,toList_madeCells_one,bb,List.map_replicate,Yy]
 rw[e1]at h3;exact Bx.bg h3
def aJ{α:Type}(d:α)(l:List α)(i:Nat):α:=(l[i]?).getD d
def fH{α:Type}(D:α->List Value)(l:List α):List Value:=l.flatMap D
def dB{α:Type}(d:α)(D:α->List Value)(sz:Nat)(w:World)(v:Value)(l:List α):Prop:=dU w sz v l.length λi=>D (aJ d l i)
section
variable {α:Type} {d:α} {D:α->List Value} {sz:Nat}
theorem aQ(l:List α)(x:α)(k:Nat)(h:k<l.length):aJ d (l.set k x) k=x:=by simp[aJ,h]
theorem qO(l:List α)(x:α)(i k:Nat)(h:i≠k):aJ d (l.set k x) i=aJ d l i:=by simp[aJ,XO (Vb h)]
theorem qN{l:List α}{i:Nat}(h:i<l.length):aJ d l i∈l:=by simp[aJ,h]
theorem TT(d:α)(l:List α):(List.range l.length).flatMap (λi=>D (aJ d l i))=fH D l:=by
 unfold fH;have h:l=(List.range l.length).map (aJ d l):=by
  apply Xt
  ·simp
  ·intro i h1 h2;simp[aJ,h1]
 conv=>rhs;rw[h]
 rw[List.flatMap_map]
theorem nM(l m:List α):fH D (l++m)=fH D l++fH D m:=by simp[fH]
theorem EE(x:α):fH D [x]=D x:=by simp[fH]
theorem LG(h:∀x,∀u∈D x,u.oneCell'=true)(l:List α):∀u∈fH D l,u.oneCell'=true:=by intro u hu;simp only[fH,List.mem_flatMap]at hu;obtain⟨x,_,hu⟩:=hu;exact h x u hu
theorem fJ(hD:∀x,(D x).length=sz)(l:List α):(fH D l).length=l.length*sz:=by
 induction l with
 |nil=>simp[fH]
 | cons x l ih=>
   have e:fH D (x::l)=D x++fH D l:=by simp[fH]
   rw[e,Yb,ih,hD,Yn,Nat.succ_mul];omega
theorem uM(hD:∀x,(D x).length=sz)(l:List α)(i j:Nat)(hi:i<l.length)(hj:j<sz):(fH D l)[i*sz+j]? = (D (aJ d l i))[j]?:=by rw[<-TT d];exact tX (λ_=>hD _) _ i j hi hj
theorem Di(hD:∀x,(D x).length=sz)(l:List α)(i j:Nat)(hi:i<l.length)(hj:j<sz)(v:Value)(x:α)(hx:D x=(D (aJ d l i)).set j v):(fH D l).set (i*sz+j) v=fH D (l.set i x):=by
 have hl:(l.set i x).length=l.length:=by simp
 have hs:0<sz:=by omega
 have hij:i*sz+j<l.length*sz:=by have:(i+1)*sz<=l.length*sz:=XA _ hi;rw[Nat.succ_mul]at this;omega
 apply YS;intro k;by_cases hk:k<l.length*sz
 ·have e:k/sz*sz+k%sz=k:=by rw[XI];exact Nat.div_add_mod k sz
  have hki:k/sz<l.length:=Nat.div_lt_of_lt_mul (by rw[XI];exact hk);have hkj:k%sz<sz:=Nat.mod_lt _ hs;have h2:=uM (d:=d) hD (l.set i x) (k/sz) (k%sz) (by rw[hl];exact hki) hkj;rw[e]at h2;rw[h2,YP];by_cases h:i*sz+j=k
  ·rw[zj h,zj (by rw[fJ hD];exact hij)];have h3:k/sz=i:=by rw[<-h,XI,Nat.mul_add_div hs,Nat.div_eq_of_lt hj,YO]
   have h4:k%sz=j:=by rw[<-h,XI,Nat.mul_add_mod,Nat.mod_eq_of_lt hj]
   rw[h3,h4,aQ _ _ _ hi,hx,YP,zj rfl,zj (by rw[hD];exact hj)]
  ·rw[zi h];have h1:=uM (d:=d) hD l (k/sz) (k%sz) hki hkj;rw[e]at h1;rw[h1];by_cases h5:k/sz=i
   ·have h6:j≠k%sz:=λh7=>h (by rw[h7,<-h5];exact e)
    rw[h5,aQ _ _ _ hi,hx,YP,zi h6]
   ·rw[qO _ _ _ _ h5]
 ·rw[Yh (by rw[Yu,fJ hD];omega),Yh (by rw[fJ hD,hl];omega)]
variable {w w':World} {v:Value} {l:List α} {base e:Nat}
theorem dB.form(h:dB d D sz w v l):∃a c,v=.slice a l.length c/\l.length<=c:=dU.form h
theorem dB.keep(h:dB d D sz w v l)(hb:Below w.heap.size w w'):dB d D sz w' v l:=dU.keep h hb
theorem dB.nil(w:World):dB d D sz w (.slice none 0 0) []:=dU.nil _ _ _
theorem dB.bg(hD:∀x,(D x).length=sz)(h:w.ownsRow base e sz v l.length (fH D l)):dB d D sz w v l:=by rw[<-TT d]at h;exact dU.bg (λ_=>hD _) h
theorem dB.reads(hD:∀x,(D x).length=sz)(h:dB d D sz w v l):Reads w sz v l.length (fH D l):=by have:=dU.reads (λ_=>hD _) h;rwa[TT]at this
theorem dB.at{a:Option Addr}{n c:Nat}(h:dB d D sz w (.slice a n c) l):∃b off,∀i,i<l.length->a=some ⟨b,off,none⟩/\w.rangeAt b (off+i*sz) (D (aJ d l i)):=by
 obtain⟨a',c',b,off,hv,_,hcell⟩:=h;injection hv with e1 e2 e3
 subst e1;exact⟨b,off,hcell⟩
theorem kQ{n:Nat}{xs:List Value}(h:w.ownsRow base e sz v n xs)(hn:0<n):∃g c,v=.slice (some ⟨g,0,none⟩) n c/\base<=g/\g<w.heap.size:=by
 rcases h.2 with ⟨_,h0⟩|⟨g,cap,cur,hv,hb,hg,_⟩
 ·omega
 ·exact⟨g,cap,hv,hb,(Yd.1 hg).1⟩
theorem aS{n:Nat}{xs:List Value}(h:w.ownsRow base e sz v n xs):∃a c,v=.slice a n c:=by
 rcases h.2 with ⟨rfl,h0⟩|⟨g,cap,cur,hv,hb,hg,_⟩
 ·exact⟨none,0,by rw[h0]⟩
 ·exact⟨_,cap,hv⟩
theorem FC(hD:∀x,(D x).length=sz){g n c:Nat}(h:w.ownsRow base e sz (.slice (some ⟨g,0,none⟩) n c) n (fH D l))(i:Nat)(hi:i<l.length):w.rangeAt g (i*sz) (D (aJ d l i)):=λj u hu=>by
 have hj:j<sz:=by have:=(Yr.1 hu).1;rwa[hD]at this
 have hn:l.length*sz=n*sz:=by have:=h.1;rw[fJ hD]at this;exact this
 have hij:i*sz+j<l.length*sz:=by have:(i+1)*sz<=l.length*sz:=XA _ hi;rw[Nat.succ_mul]at this;omega
 rw[h.cellAt (i*sz+j) (by omega),uM (d:=d) hD l i j hi hj];exact hu
theorem Qz(hD:∀x,(D x).length=sz){g n c:Nat}(h:w.ownsRow base e sz (.slice (some ⟨g,0,none⟩) n c) n (fH D l))(i j:Nat)(hi:i<l.length)(hj:j<sz)(u:Value)(x:α)(hx:D x=(D (aJ d l i)).set j u):
 (w.setCell ⟨g,i*sz+j,none⟩ u).ownsRow base e sz (.slice (some ⟨g,0,none⟩) n c) n (fH D (l.set i x)):=by
 have:=(h.stored (i*sz+j) u).1;rwa[Di hD l i j hi hj u x hx]at this
theorem lK{n:Nat}{xs:List Value}(h:w.ownsRow base e sz v n xs){p:Addr}(hp:p.block<base)(u:Value):(w.setCell p u).ownsRow base e sz v n xs:=by
 refine⟨h.1,?_⟩;rcases h.2 with h|⟨g,cap,cur,hv,hg,hh,r⟩
 ·exact .inl h
 ·exact .inr ⟨g,cap,cur,hv,hg,(zh w p u g (by omega)).trans hh,r⟩
theorem aV{n:Nat}{xs:List Value}(h:w.ownsRow base e sz v n xs)(hb:Below w.heap.size w w'):w'.ownsRow base e sz v n xs:=by
 refine⟨h.1,?_⟩;rcases h.2 with h|⟨g,cap,cur,hv,hg,hh,r⟩
 ·exact .inl h
 ·exact .inr ⟨g,cap,cur,hv,hg,(hb.block g (Yd.1 hh).1).trans hh,r⟩
theorem bH{n:Nat}{xs:List Value}(h:w.ownsRow base e sz v n xs):∀k,v.ownBlock=some k->base<=k:=by
 intro k hk;rcases h.2 with ⟨rfl,_⟩|⟨g,cap,cur,rfl,hb,_⟩
 ·simp[Value.ownBlock]at hk
 ·have:g=k:=by simpa[Value.ownBlock]using hk
  omega
theorem oP{n:Nat}{xs:List Value}(h:w.ownsRow base e sz v n xs):∀k,v.ownBlock=some k->k<w.heap.size:=by
 intro k hk;rcases h.2 with ⟨rfl,_⟩|⟨g,cap,cur,rfl,hb,hg,_⟩
 ·simp[Value.ownBlock]at hk
 ·have:g=k:=by simpa[Value.ownBlock]using hk
  exact this ▸ (Yd.1 hg).1
theorem dB.one(hs:0<sz)(hD:∀x,(D x).length=sz)(W:World)(t:TypeId)(y:α):dB d D sz (W.alloc (.cells (D y).toArray t)) (.slice (some ⟨W.heap.size,0,none⟩) 1 1) [y]:=by
 refine⟨some ⟨W.heap.size,0,none⟩,1,W.heap.size,0,rfl,zl _,λi hi=>⟨rfl,λj u hu=>?_⟩⟩;obtain rfl:i=0:=by simp at hi;omega
 replace hu:(D y)[j]? = some u:=hu;simp only[Nat.zero_mul,Yf];exact(Bx.new W t (D y)).cell hu
theorem BZ{P:Program}{ops:Array Oper}{rest:List Oper}{o:Oper}{a:Act}{Q:Exit->Act->World->Prop}(hg:o.guard=none)(s x:Operand){t:TypeId}
 (hop:o.op=.call {callee:=.builtin .append,args:=#[s,x],argTypes:=#[t,t]}){e:TypeId}{z:Value}{bytes:Nat}(ht:P.underlying t=some (.slice e))
 (hi:(P.info? e).map (λi=>(i.zero,i.size,i.bytes))=some (some z,sz,bytes))(hzs:z.cells.size=sz)(hs0:0<sz)(hD:∀x,(D x).length=sz)(hone:∀x,∀u∈D x,u.oneCell'=true)
 {n:Nat}(hown:w.ownsRow base e sz v n (fH D l))(hv:a.eval s=v){vs:Value}{m:List α}(hs:dB d D sz w vs m)(hx:a.eval x=vs)
 (h63:n+m.length<=maxLen)(hbytes:(n+m.length)*bytes<=140737488355328)(hbase:base<=w.heap.size)
 (hK:∀v' w',w'.ownsRow base e sz v' (n+m.length) (fH D (l++m))->w.grownBy w' v.ownBlock->wpList P ops Q rest (a.put o.dst v') w'):wpList P ops Q (o::rest) a w:=by
 obtain⟨i0,hi,hz0,hz1,hz2⟩:=info_parts hi;refine oH hg s x hop ht hi hz0 hz1 hz2 hzs hs0 hown hv (hs.reads hD) hx (LG hone m) h63 hbytes hbase λv' w' g1 g2 g3=>?_
 rw[<-nM]at g1;exact hK v' w' g1 g2
end
section
variable {α:Type} {d:α} {D:α->List Value} {sz:Nat}
end
def fA(r:Option Nat)(w W:World):Prop:=w.heap.size<=W.heap.size/\∀k,k<w.heap.size->some k≠r->W.heap[k]? = w.heap[k]?
section
variable {r:Option Nat} {w W W':World}
theorem fA.refl(r:Option Nat)(w:World):fA r w w:=⟨zl _,λ_ _ _=>rfl⟩
theorem fA.call(h:fA r w W)(hb:Below W.heap.size W W'):fA r w W':=⟨zT h.1 hb.size,λk h1 h2=>(hb.block k (zL h1 h.1)).trans (h.2 k h1 h2)⟩
theorem fA.alloc(h:fA r w W)(o:Obj):fA r w (W.alloc o):=h.call ((zB _ _).alloc (zl _) o)
theorem fA.grown(h:fA r w W)(hg:W.grownBy W' r):fA r w W':=⟨zT h.1 hg.size,λk h1 h2=>(hg.block k (zL h1 h.1) h2).trans (h.2 k h1 h2)⟩
theorem fA.cell(h:fA r w W){p:Addr}(hp:p.block<w.heap.size)(hg:some p.block≠r):W.cell? p=w.cell? p:=XC (w:=w) (h.2 p.block hp hg)
theorem fA.below(h:fA r w W){B:Nat}(h0:W.os=w.os/\W.tape=w.tape/\W.output=w.output)(hB:B<=w.heap.size)(hr:∀k,r=some k->B<=k):Below B w W:=
 ⟨h0.1,h0.2.1,h0.2.2,h.1,λk hk=>h.2 k (by omega) (λe=>by have:=hr k e.symm;omega)⟩
end
section
variable {P:Program} {Q:Exit->Act->World->Prop}
def gp(l:List Oper)(t:Tmp):Bool:=l.all λo=>o.dst != some t
def aif(P:Program)(Q:Exit->Act->World->Prop)(C:World->Prop)(V:Nat->Value->World->Prop)(l:List Oper)(a0:Act)(i:Nat)(o:Oper):Prop:=
 ∀a w,C w->a.tmps.size=a0.tmps.size->(∀t,gp l t=true->a.tmps.getD t undef=a0.tmps.getD t undef)->
   (∀k,(o.after.toList.any λe=>e.on == k && Region.binds .any e)=true->∀(ok:Oper)(t:Tmp),l[k]? = some ok->ok.dst=some t->V k (a.tmps.getD t undef) w)->
   o.wp P a w (λa' w'=>∃v,a'=a.put o.dst v/\Below w.heap.size w w'/\V i v w') Q
def KI(P:Program)(Q:Exit->Act->World->Prop)(C:World->Prop)(V:Nat->Value->World->Prop)(l:List Oper)(a0:Act):Nat->List Oper->Prop
 |_,[]=>True
 |i,o::r=>aif P Q C V l a0 i o/\KI P Q C V l a0 (i+1) r
theorem KI.at{C:World->Prop}{V:Nat->Value->World->Prop}{l:List Oper}{a0:Act}:∀{i:Nat}{r:List Oper},KI P Q C V l a0 i r->∀{j:Nat}{o:Oper},r[j]? = some o->aif P Q C V l a0 (i+j) o
 |i,[],_,j,o,h=>by simp at h
 | i,x :: r,h,0,o,ho=>by
   have:x=o:=by simpa using ho
   subst this;exact h.1
 |i,x::r,h,j+1,o,ho=>by have:=KI.at h.2 (j:=j) (o:=o) (by simpa using ho);rwa[XD,Nat.add_comm 1 j]at this
theorem ab1(tm:Array Value)(n:Nat)(h:tm.size=n):tm=((List.range n).map λi=>tm.getD i undef).toArray:=by
 apply Array.ext
 ·simp[h]
 ·intro i h1 h2;simp[Array.getD,h1]
structure aoZ (l:List Oper) (C:World->Prop) (V:Nat->Value->World->Prop) (a0:Act) (listed:Array Bool) (a:Act) (w:World):Prop where
 c:C w
 defers:a.defers=a0.defers
 size:a.tmps.size=a0.tmps.size
 old:∀t,gp l t=true->a.tmps.getD t undef=a0.tmps.getD t undef
 val:∀(i:Nat)(o:Oper)(t:Tmp),l[i]? = some o->listed.getD i false=true->o.dst=some t->V i (a.tmps.getD t undef) w
def left(n:Nat)(listed:Array Bool):Nat:=((List.range n).filter λi=>!listed.getD i true).length
theorem Fe{n i:Nat}{listed:Array Bool}(hn:listed.size=n)(hi:listed.getD i true=false):left n (listed.setIfInBounds i true)<left n listed:=by
 unfold left;have hil:i<listed.size:=by
  rcases Nat.lt_or_ge i listed.size with h|h
  ·exact h
  ·simp[Array.getD,Nat.not_lt.2 h]at hi
 have e:(List.range n).filter (λj=>!(listed.setIfInBounds i true).getD j true)=((List.range n).filter λj=>!listed.getD j true).filter (λj=>decide (j≠i)):=by
  rw[List.filter_filter];refine List.filter_congr λj hj=>?_
  by_cases hji:i=j
  ·subst hji;simp[hil]
  ·rw[getD_set_ne true hji];simp[Vb hji]
 rw[e];refine List.length_filter_lt_length_iff_exists.2 ⟨i,YI.2 ⟨Yx.2 (by omega),by simp[hi]⟩,by simp⟩
theorem lg{a:Act}{t:Tmp}{v:Value}(h:t<a.tmps.size):(a.put (some t) v).tmps.getD t undef=v:=by simp[Act.put,Array.getD,h]
theorem gu{a:Act}{d:Option Tmp}{t:Tmp}{v:Value}(h:d≠some t):(a.put d v).tmps.getD t undef=a.tmps.getD t undef:=by
 cases d with
 |none=>rfl
 | some d=>
   have hne:d≠t:=λe=>h (by rw[e])
   simp[Act.put,Vj hne]
theorem QR{a:Act}{d:Option Tmp}{v:Value}:(a.put d v).tmps.size=a.tmps.size:=by cases d <;> simp[Act.put]
theorem put_defers{a:Act}{d:Option Tmp}{v:Value}:(a.put d v).defers=a.defers:=by cases d <;> simp[Act.put]
theorem jS{listed:Array Bool}{i j:Nat}(h:(listed.setIfInBounds i true).getD j false=true):j=i\/listed.getD j false=true:=by
 by_cases e:j=i
 ·exact .inl e
 ·rw[getD_set_ne false (Vb e)]at h;exact .inr h
end
def reach(l:List Oper):Nat->Nat->Nat->Bool
 |0,_,_=>false
 | f+1,i,j=>match l[i]? with
   |some o=>o.after.toList.any λe=>Region.binds .any e && (e.on == j || reach l f e.on j)
   |none=>false
def Ku(l:List Oper)(listed:Array Bool):Prop:=∀(j:Nat)(oj:Oper),l[j]? = some oj->listed.getD j false=true->∀e∈oj.after,Region.binds .any e=true->listed.getD e.on false=true
theorem rM{l:List Oper}{listed:Array Bool}(hc:Ku l listed):∀(f i j:Nat),reach l f i j=true->(∀(o:Oper),l[i]? = some o->∀e∈o.after,Region.binds .any e=true->listed.getD e.on false=true)->listed.getD j false=true
 |0,_,_,h,_=>by simp[reach]at h
 | f+1,i,j,h,ha=>by
   unfold reach at h;split at h
   ·rename_i o ho
    rw[XY]at h;obtain⟨e,he,hb⟩:=h;rw[Yt,Xq]at hb;have he':=Vf.1 he;have h1:=ha o ho e he' hb.1;rcases hb.2 with h2|h2
    ·have:e.on=j:=by simpa using h2
     rw[<-this];exact h1
    ·exact rM hc f e.on j h2 λo' ho' e' he' hb'=>hc e.on o' ho' h1 e' he' hb'
   ·cases h
def chainB(l:List Oper)(eff:Nat->Option Nat)(sk:Nat->Bool)(n:Nat):Bool:=
 (List.range l.length).all λi=>match eff i with
  |none=>true
  | some k=>!sk i && Nat.blt k n && ((List.range l.length).all fun j=>match eff j with
    |none=>true
    |some m=>(m != k || i == j) && (m+1 != k || reach l 3 i j)) && (k == 0 || (List.range l.length).any λj=>eff j == some (k-1))
section
variable {P:Program} {Q:Exit->Act->World->Prop}
def gK(d:Option Tmp)(a:Act):Value:=match d with
 |some t=>a.tmps.getD t undef
 |none=>undef
def kept(d:Option Tmp)(v:Value):Value:=match d with
 |some _=>v
 |none=>undef
def Ae(l:List Oper)(i:Nat)(a:Act)(k:Nat):Value:=match l[i]?,l[k]? with
 |some oi,some ok=>if (oi.after.toList.any λe=>e.on == k && Region.binds .any e)=true then gK ok.dst a else undef
 |_,_=>undef
def kJ(l:List Oper)(n:Nat):Bool:=
 (List.range l.length).all (λi=>((l[i]?).map λo=>o.after.toList.all (λe=>!Region.binds .any e || Nat.blt e.on i) && (match o.dst with|some t=>Nat.blt t n|none=>true)).getD true) &&
 decide ((l.filterMap (·.dst)).Nodup)
theorem rq{l:List Oper}{n:Nat}(h:kJ l n=true):(∀(i:Nat)(o:Oper),l[i]? = some o->(∀e∈o.after,Region.binds .any e=true->e.on<i)/\∀t,o.dst=some t->t<n)/\
 ∀(i j:Nat)(oi oj:Oper)(t:Tmp),l[i]? = some oi->l[j]? = some oj->oi.dst=some t->oj.dst=some t->i=j:=by
 unfold kJ at h;rw[Yt]at h;obtain⟨h1,h2⟩:=h;refine⟨λi o ho=>?_,?_⟩
 ·have hi:=(Yr.1 ho).1;have:=Xa.1 h1 i (Yx.2 hi);rw[ho]at this;simp only[Option.map_some,Option.getD_some,Yt]at this;obtain⟨g2,g3⟩:=this;refine⟨λe he hbi=>?_,λt ht=>?_⟩
  ·have:=Xa.1 g2 e (Vf.2 he);rw[hbi,Bool.not_true,Bool.false_or]at this;exact Nat.blt_eq ▸ this
  ·rw[ht]at g3;exact Nat.blt_eq ▸ g3
 ·have hn:=YU h2;clear h1 h2
  induction l with
  |nil=>intro i j oi oj t h;simp at h
  | cons x r ih=>
    intro i j oi oj t hi hj hti htj;have hnr:(r.filterMap (·.dst)).Nodup:=by
     cases hx:x.dst with
     |none=>simpa[List.filterMap_cons,hx]using hn
     |some u=>simp only[List.filterMap_cons,hx]at hn;exact(List.nodup_cons.1 hn).2
    have hx0:∀(k:Nat)(ok:Oper),r[k]? = some ok->ok.dst=some t->x.dst≠some t:=λk ok hk hd hx=>by simp only[List.filterMap_cons,hx]at hn;exact(List.nodup_cons.1 hn).1 (List.mem_filterMap.2 ⟨ok,List.mem_of_getElem? hk,hd⟩)
    cases i with
    | zero=>
      cases j with
      |zero=>rfl
      | succ j=>
        have e:x=oi:=by simpa using hi
        subst e;exact absurd hti (hx0 j oj (by simpa using hj) htj)
    | succ i=>
      cases j with
      | zero=>
        have e:x=oj:=by simpa using hj
        subst e;exact absurd htj (hx0 i oi (by simpa using hi) hti)
      | succ j=>
        have:=ih hnr i j oi oj t (by simpa using hi) (by simpa using hj) hti htj;omega
theorem ag{o:Oper}{y:Nat->Option Bool}(h:o.guard=none):Region.wanted o y=true:=by simp[Region.wanted,h]
theorem aP{o:Oper}{ops:Array Oper}{tmps:Array Value}{j:Nat}{want b:Bool}{t:Tmp}(h:o.guard=some (j,want))(hd:((ops[j]?).bind (·.dst))=some t)(hv:tmps.getD t undef=.bool b):Region.wanted o (yielded ops tmps)=(b == want):=by
 have hs:tmps[t]? = some (.bool b):=by
  by_cases hlt:t<tmps.size
  ·rw[XK hlt];simp only[Array.getD,hlt,dif_pos]at hv;exact Yp some hv
  ·simp only[Array.getD,hlt,dif_neg,not_false_eq_true]at hv;cases hv
 simp[Region.wanted,h,yielded,hd,hs]
theorem ak{R:World->World->Prop}{V:Nat->Value->World->Prop}{i:Nat}{o:Oper}{a:Act}{w:World}{v:Value}(hr:R w w)(hv:V i (kept o.dst v) w)(h:∀K:Act->World->Prop,K (a.put o.dst v) w->o.wp P a w K Q):
 o.wp P a w (λa' w'=>∃v,a'=a.put o.dst v/\R w w'/\V i (kept o.dst v) w') Q:=h _ ⟨v,rfl,hr,hv⟩
theorem eG{R:World->World->Prop}{V:Nat->Value->World->Prop}{i:Nat}{o:Oper}{a:Act}{w:World}{v:Value}(hr:∀w',Below w.heap.size w w'->R w w')(hv:∀w',V i (kept o.dst v) w')(h:∀K:Act->World->Prop,(∀w',Below w.heap.size w w'->K (a.put o.dst v) w')->o.wp P a w K Q):
 o.wp P a w (λa' w'=>∃v,a'=a.put o.dst v/\R w w'/\V i (kept o.dst v) w') Q:=h _ λw' hb=>⟨v,rfl,hr w' hb,hv w'⟩
theorem JY{R:World->World->Prop}{V:Nat->Value->World->Prop}{i:Nat}{o:Oper}{a:Act}{w w':World}{v:Value}(hr:R w w')(hv:V i (kept o.dst v) w')(h:∀K:Act->World->Prop,K (a.put o.dst v) w'->o.wp P a w K Q):
 o.wp P a w (λa' w'=>∃v,a'=a.put o.dst v/\R w w'/\V i (kept o.dst v) w') Q:=h _ ⟨v,rfl,hr,hv⟩
theorem ai{p q:Prop}{b:Bool}(hb:b=false){c:Prop}(h1:p)(h2:q):if b=true then c else p/\q:=by rw[zi (by rw[hb];decide)];exact⟨h1,h2⟩
theorem U0{l:List Oper}{n:Nat}(hf:kJ l n=true){listed:Array Bool}(hs:listed.size=l.length)(h:Region.ready .any l.toArray listed = []):∀i,i<l.length->listed.getD i false=true:=by
 intro i
 induction i using Nat.strongRecOn with
 | ind i ih=>
   intro hi;obtain⟨o,ho⟩:∃o,l[i]? = some o:=⟨l[i],Ye hi⟩;have hsp:=(rq hf).1 i o ho;rcases hb:listed.getD i true with _|_
   ·have:i∈Region.ready .any l.toArray listed:=mem_ready.2 ⟨hb,o,by simpa using ho,λe he hbi=>ih e.on (hsp.1 e he hbi) (by have:=hsp.1 e he hbi;omega)⟩;rw[h]at this;cases this
   ·have:i<listed.size:=by omega
    simp only[Array.getD,this,dif_pos]at hb ⊢;exact hb
def aie(P:Program)(Q:Exit->Act->World->Prop)(R:Nat->World->World->Prop)(C:Nat->Act->World->Prop)(V:Nat->Value->(Nat->Value)->World->Prop)(sk:Nat->Bool)(eff:Nat->Option Nat)(l:List Oper)(a0:Act)(i:Nat)(o:Oper):Prop:=
 ∀(r:Nat) a w,C r a w->a.tmps.size=a0.tmps.size->(∀t,gp l t=true->a.tmps.getD t undef=a0.tmps.getD t undef)->
   (∀k,(o.after.toList.any λe=>e.on == k && Region.binds .any e)=true->sk k=false->∀(ok:Oper),l[k]? = some ok->V k (gK ok.dst a) (Ae l k a) w)->
   (∀(j:Nat)(oj:Oper)(t:Tmp),l[j]? = some oj->oj.dst=some t->(oj.after.toList.any λe=>e.on == i && Region.binds .any e)=true->a.tmps.getD t undef=a0.tmps.getD t undef)->
   (∀j k,eff j=some k->reach l 3 i j=true->k<r)->(∀j k,eff j=some k->reach l 3 j i=true->r<=k)->(∀k,eff i=some k->k=r)->
   if sk i=true then Region.wanted o (yielded l.toArray a.tmps)=false
   else Region.wanted o (yielded l.toArray a.tmps)=true/\o.wp P a w (λa' w'=>∃v,a'=a.put o.dst v/\R r w w'/\(match eff i with|some _=>C (r+1) (a.put o.dst v) w'|none=>C r (a.put o.dst v) w')/\V i (kept o.dst v) (Ae l i a) w') Q
structure aid (l:List Oper) (C:Nat->Act->World->Prop) (V:Nat->Value->(Nat->Value)->World->Prop) (sk:Nat->Bool) (eff:Nat->Option Nat) (n:Nat) (a0:Act) (listed:Array Bool) (a:Act) (w:World):Prop where
 c:∃r,r<=n/\C r a w/\∀i k,i<l.length->eff i=some k->(listed.getD i false=true↔k<r)
 defers:a.defers=a0.defers
 size:a.tmps.size=a0.tmps.size
 old:∀t,gp l t=true->a.tmps.getD t undef=a0.tmps.getD t undef
 val:∀(i:Nat)(o:Oper),l[i]? = some o->sk i=false->listed.getD i false=true->V i (gK o.dst a) (Ae l i a) w
 unl:∀(j:Nat)(oj:Oper)(t:Tmp),l[j]? = some oj->oj.dst=some t->listed.getD j false=false->a.tmps.getD t undef=a0.tmps.getD t undef
 closed:Ku l listed
theorem pG{listed:Array Bool}{i:Nat}(h:i<listed.size):(listed.setIfInBounds i true).getD i false=true:=by simp[Array.getD,h]
theorem Bo{listed:Array Bool}{i k:Nat}(h:i<listed.size)(hk:listed.getD k false=true):(listed.setIfInBounds i true).getD k false=true:=by
 by_cases e:i=k
 ·subst e;exact pG h
 ·rw[getD_set_ne false e];exact hk
theorem ah2{l:List Oper}{R:Nat->World->World->Prop}{C:Nat->Act->World->Prop}{V:Nat->Value->(Nat->Value)->World->Prop}{sk:Nat->Bool}{eff:Nat->Option Nat}{n:Nat}{a0:Act}(hf:kJ l a0.tmps.size=true)(hch:chainB l eff sk n=true)
 (hn:((List.range l.length).any λi=>eff i == some (n-1))=true\/n=0)
 (hC:∀r a w i (o:Oper) v,l[i]? = some o->eff i=none->sk i=true->C r a w->C r (a.put o.dst v) w)(hV:∀i r v d w w',(∀k,eff i=some k->k<r)->R r w w'->V i v d w->V i v d w')
 (hstep:∀(i:Nat)(o:Oper),l[i]? = some o->aie P Q R C V sk eff l a0 i o)
 (hend:∀a w,C n a w->a.defers=a0.defers->a.tmps.size=a0.tmps.size->(∀t,gp l t=true->a.tmps.getD t undef=a0.tmps.getD t undef)->
  (∀(i:Nat)(o:Oper),l[i]? = some o->sk i=false->V i (gK o.dst a) (Ae l i a) w)->Q .normal a w):
 ∀(fuel:Nat)(listed:Array Bool)(a:Act)(w:World),listed.size=l.length->left l.length listed<=fuel->aid l C V sk eff n a0 listed a w->wpAny P .any l.toArray Q fuel listed a w:=by
 have chain:∀i k,i<l.length->eff i=some k->sk i=false/\k<n/\(∀j m,j<l.length->eff j=some m->(m=k->i=j)/\(m+1=k->reach l 3 i j=true))/\(k=0\/∃j,j<l.length/\eff j=some (k-1)):=by
  intro i k hi hk;have:=Xa.1 hch i (Yx.2 hi);rw[hk]at this;simp only[Yt,Bool.not_eq_true']at this;obtain⟨⟨⟨h1,h2⟩,h3⟩,h4⟩:=this;refine⟨h1,Nat.blt_eq ▸ h2,λj m hj hm=>?_,?_⟩
  ·have:=Xa.1 h3 j (Yx.2 hj);rw[hm]at this;simp only[Yt,Xq,XV,YG,ne_eq]at this;exact⟨λe=>this.1.resolve_left (λh=>h e),λe=>this.2.resolve_left (λh=>h e)⟩
  ·rw[Xq]at h4;rcases h4 with h4|h4
   ·exact .inl (by simpa using h4)
   ·rw[XY]at h4;obtain⟨j,hj,he⟩:=h4;exact .inr ⟨j,Yx.1 hj,by simpa using he⟩
 have hfin:∀(listed:Array Bool)(a:Act)(w:World),listed.size=l.length->aid l C V sk eff n a0 listed a w->Region.ready .any l.toArray listed = []->Q .normal a w:=λlisted a w hs hok hr=>by
  have hall:=U0 hf hs hr;obtain⟨r,hrn,hc,hcl⟩:=hok.c;have hr2:r=n:=by
   rcases hn with h|h
   ·rw[XY]at h;obtain⟨j,hj,he⟩:=h;have:=(hcl j (n-1) (Yx.1 hj) (by simpa using he)).1 (hall j (Yx.1 hj));omega
   ·omega
  subst hr2;exact hend a w hc hok.defers hok.size hok.old λi o ho hsk=>hok.val i o ho hsk (hall i (Yr.1 ho).1)
 intro fuel
 induction fuel with
 | zero=>
   intro listed a w hs hle hok;have hr:Region.ready .any l.toArray listed = []:=by
    rcases hq:Region.ready .any l.toArray listed with _|⟨i,r⟩
    ·rfl
    ·have hi:i∈Region.ready .any l.toArray listed:=by rw[hq];exact List.mem_cons_self ..
     have:=Fe hs (mem_ready.1 hi).1;omega
   exact⟨hr,hfin listed a w hs hok hr⟩
 | succ fuel ih=>
   intro listed a w hs hle hok;refine⟨hfin listed a w hs hok,λi hi=>?_⟩;obtain⟨hun,o,ho,hall⟩:=mem_ready.1 hi;have hol:l[i]? = some o:=by simpa using ho
   have hil:i<l.length:=(Yr.1 hol).1;have hij:i<listed.size:=by rw[hs];exact hil
   have agD:listed.getD i false=false:=by simp only[Array.getD,hij,dif_pos]at hun ⊢;exact hun
   obtain⟨_,hlt⟩:=(rq hf).1 i o hol;obtain⟨r,hrn,hc,hcl⟩:=hok.c;have hst:=hstep i o hol;have ac3:∀(o':Oper),l[i]? = some o'->∀e∈o'.after,Region.binds .any e=true->listed.getD e.on false=true:=λo' ho' e he hb=>by
    obtain rfl:o=o':=by rw[hol]at ho';exact zs ho'
    exact hall e he hb
   have hlo:∀j k,eff j=some k->reach l 3 i j=true->k<r:=λj k hk hre=>by
    have h1:=rM hok.closed 3 i j hre ac3;have hj:j<l.length:=by
     by_cases hj:j<l.length
     ·exact hj
     ·exfalso;have:¬ j<listed.size:=by omega
      simp[Array.getD,this]at h1
    exact(hcl j k hj hk).1 h1
   have hhi:∀j k,eff j=some k->reach l 3 j i=true->r<=k:=λj k hk hre=>by
    by_cases hj:j<l.length
    ·rcases Nat.lt_or_ge k r with h|h
     ·exfalso;have hlj:=(hcl j k hj hk).2 h;obtain⟨oj,hoj⟩:∃oj,l[j]? = some oj:=⟨l[j],Ye hj⟩;have:=rM hok.closed 3 j i hre λo' ho' e he hb=>hok.closed j o' ho' hlj e he hb
      rw[agD]at this;cases this
     ·exact h
    ·exfalso;unfold reach at hre;rw[Yh (by omega)]at hre;cases hre
   have hrk:∀k,eff i=some k->k=r:=λk hk=>by
    obtain⟨_,_,h3,h4⟩:=chain i k hil hk;have h5:¬ k<r:=λh=>by have:=(hcl i k hil hk).2 h;rw[agD]at this;cases this
    rcases h4 with h4|⟨j,hj,hje⟩
    ·omega
    ·by_cases hk0:k=0
     ·omega
     ·have:=hlo j (k-1) hje ((h3 j (k-1) hj hje).2 (by omega));omega
   have h1:=hst r a w hc hok.size hok.old (λk hk hsk ok hkl=>by
    rw[XY]at hk;obtain⟨e,he,hb⟩:=hk;rw[Yt]at hb;have hek:e.on=k:=by simpa using hb.1
    exact hok.val k ok hkl hsk (by rw[<-hek];exact hall e (Vf.1 he) hb.2)) (λj oj t hoj hdt hk=>by
    refine hok.unl j oj t hoj hdt ?_;rw[XY]at hk;obtain⟨e,he,hb⟩:=hk;rw[Yt]at hb;have hek:e.on=i:=by simpa using hb.1
    cases hlj:listed.getD j false with
    |false=>rfl
    | true=>
      have h2:=hok.closed j oj hoj hlj e (Vf.1 he) hb.2;rw[hek,agD]at h2;cases h2) hlo hhi hrk
   have hold:∀v,∀t,gp l t=true->(a.put o.dst v).tmps.getD t undef=a0.tmps.getD t undef:=λv t ht=>by
    have hne:o.dst≠some t:=by have:=Xa.1 ht o (List.mem_of_getElem? hol);simpa using this
    rw[gu hne];exact hok.old t ht
   have hother:∀(v:Value)(j:Nat)(oj:Oper),l[j]? = some oj->j≠i->gK oj.dst (a.put o.dst v)=gK oj.dst a:=λv j oj hoj hne=>by
    cases hjt:oj.dst with
    |none=>rfl
    | some t=>
      refine gu λhd=>hne ?_
      exact((rq hf).2 i j o oj t hol hoj hd hjt).symm
   have aml:∀v (j:Nat) (oj:Oper) (t:Tmp),l[j]? = some oj->oj.dst=some t->(listed.setIfInBounds i true).getD j false=false->(a.put o.dst v).tmps.getD t undef=a0.tmps.getD t undef:=λv j oj t hoj hdt hlj=>by
    have hji:j≠i:=by rintro rfl;rw[pG hij]at hlj;cases hlj
    have hne:o.dst≠some t:=λhd=>hji ((rq hf).2 i j o oj t hol hoj hd hdt).symm
    rw[gu hne];refine hok.unl j oj t hoj hdt ?_;rw[<-getD_set_ne (listed:=listed) false (Vb hji)];exact hlj
   have alT:Ku l (listed.setIfInBounds i true):=λj oj hoj hlj e he hb=>by
    rcases jS hlj with rfl|hlj
    ·exact Bo hij (ac3 oj hoj e he hb)
    ·exact Bo hij (hok.closed j oj hoj hlj e he hb)
   have hdv:∀(v:Value)(j:Nat)(oj:Oper),l[j]? = some oj->(listed.setIfInBounds i true).getD j false=true->Ae l j (a.put o.dst v)=Ae l j a:=λv j oj hoj hlj=>by
    funext k;unfold Ae;rw[hoj];cases hk:l[k]? with
    |none=>rfl
    | some ok=>
      simp only;by_cases Jp:(oj.after.toList.any λe=>e.on == k && Region.binds .any e)=true
      ·rw[zj Jp,zj Jp];refine hother v k ok hk λe0=>?_
       rw[XY]at Jp;obtain⟨e,he,hb⟩:=Jp;rw[Yt]at hb;have hek:e.on=i:=by rw[<-e0];simpa using hb.1
       have h2:listed.getD e.on false=true:=by
        rcases jS hlj with rfl|hlj
        ·exact ac3 oj hoj e (Vf.1 he) hb.2
        ·exact hok.closed j oj hoj hlj e (Vf.1 he) hb.2
       rw[hek,agD]at h2;cases h2
      ·rw[zi Jp,zi Jp]
   have hcl0:eff i=none->∀j k,j<l.length->eff j=some k->((listed.setIfInBounds i true).getD j false=true↔k<r):=λhn j k hj hk=>by
    have hne:i≠j:=λe=>by subst e;rw[hn]at hk;cases hk
    rw[getD_set_ne false hne];exact hcl j k hj hk
   unfold wpOp;simp only[ho];by_cases hsk:sk i=true
   ·rw[zj hsk]at h1;rw[zi (by rw[h1];decide)];have hen:eff i=none:=by
     cases he:eff i with
     |none=>rfl
     | some k=>
       have:=(chain i k hil he).1;rw[hsk]at this;cases this
    refine ih _ _ _ (by simpa using hs) (by have:=Fe hs hun;omega) ⟨⟨r,hrn,hC r a w i o _ hol hen hsk hc,hcl0 hen⟩,by rw[put_defers];exact hok.defers,by rw[QR];exact hok.size,hold _,λj oj hoj hsj hlj=>?_,aml _,alT⟩;rw[hdv _ j oj hoj hlj];rcases jS hlj with rfl|hlj
    ·rw[hsk]at hsj;cases hsj
    ·have hne:j≠i:=λe=>by subst e;rw[hsk]at hsj;cases hsj
     rw[hother _ j oj hoj hne];exact hok.val j oj hoj hsj hlj
   ·rw[zi hsk]at h1;rw[zj h1.1];refine .inl (Oper.wp_mono ?_ h1.2);rintro a' w' ⟨v,rfl,hb,hc',hv⟩;have hcc:∃r',r'<=n/\C r' (a.put o.dst v) w'/\∀j k,j<l.length->eff j=some k->((listed.setIfInBounds i true).getD j false=true↔k<r'):=by
     cases he:eff i with
     | none=>
       rw[he]at hc';exact⟨r,hrn,hc',hcl0 he⟩
     | some k0=>
       rw[he]at hc';obtain rfl:=hrk k0 he;obtain⟨_,hlt0,h3,_⟩:=chain i k0 hil he;refine⟨k0+1,hlt0,hc',λj k hj hk=>?_⟩;by_cases hje:i=j
       ·subst hje;rw[he]at hk;obtain rfl:=zs hk;rw[pG hij];exact⟨λ_=>by omega,λ_=>rfl⟩
       ·rw[getD_set_ne false hje,hcl j k hj hk];have:k≠k0:=λe=>hje ((h3 j k hj hk).1 e)
        omega
    refine ih _ _ _ (by simpa using hs) (by have:=Fe hs hun;omega) ⟨hcc,by rw[put_defers];exact hok.defers,by rw[QR];exact hok.size,hold _,λj oj hoj hsj hlj=>?_,aml _,alT⟩;rw[hdv _ j oj hoj hlj];by_cases hji:j=i
    ·subst hji;obtain rfl:o=oj:=by rw[hol]at hoj;exact zs hoj
     have hsv:gK o.dst (a.put o.dst v)=kept o.dst v:=by
      cases hd:o.dst with
      |none=>rfl
      |some t=>exact lg (by rw[hok.size];exact hlt t hd)
     rw[hsv];exact hv
    ·rcases jS hlj with h|hlj
     ·exact(hji h).elim
     ·rw[hother _ j oj hoj hji];exact hV j r _ _ w w' (λk hk=>(hcl j k (Yr.1 hoj).1 hk).1 hlj) hb (hok.val j oj hoj hsj hlj)
theorem Gg{l:List Oper}{a0:Act}{w:World}(R:Nat->World->World->Prop)(C:Nat->Act->World->Prop)(V:Nat->Value->(Nat->Value)->World->Prop)(sk:Nat->Bool)(eff:Nat->Option Nat)(n:Nat)(hf:kJ l a0.tmps.size=true)
 (hch:chainB l eff sk n=true)(hn:((List.range l.length).any λi=>eff i == some (n-1))=true\/n=0)
 (hC:∀r a w i (o:Oper) v,l[i]? = some o->eff i=none->sk i=true->C r a w->C r (a.put o.dst v) w)(hV:∀i r v d w w',(∀k,eff i=some k->k<r)->R r w w'->V i v d w->V i v d w')(h0:C 0 a0 w.drew)
 (hstep:∀(i:Nat)(o:Oper),l[i]? = some o->aie P Q R C V sk eff l a0 i o)
 (hend:∀a w,C n a w->a.defers=a0.defers->a.tmps.size=a0.tmps.size->(∀t,gp l t=true->a.tmps.getD t undef=a0.tmps.getD t undef)->
  (∀(i:Nat)(o:Oper),l[i]? = some o->sk i=false->V i (gK o.dst a) (Ae l i a) w)->Q .normal a w):wpAny P .any l.toArray Q l.toArray.size (Array.replicate l.toArray.size false) a0 w.drew:=by
 have hnn:(Array.replicate l.toArray.size false).size=l.length:=by simp
 have hz:∀i,i<l.length->(Array.replicate l.toArray.size false).getD i false=false:=λi hi=>by simp[Array.getD,hi]
 refine ah2 hf hch hn hC hV hstep hend _ _ _ _ hnn ?_ ⟨⟨0,Xx _,h0,λi k hi _=>?_⟩,rfl,rfl,λt _=>rfl,λi o ho _ hl=>?_,λ_ _ _ _ _ _=>rfl,λj oj hoj hl=>?_⟩
 ·have:=YN (λi=>!(Array.replicate l.toArray.size false).getD i true) (List.range l.length);unfold left;simpa using this
 ·rw[hz i hi];simp
 ·rw[hz i (Yr.1 ho).1]at hl;cases hl
 ·rw[hz j (Yr.1 hoj).1]at hl;cases hl
theorem wH(l:List Oper)(sk:Nat->Bool):chainB l (λ_=>none) sk 0=true:=Xa.2 λ_ _=>rfl
theorem zu{p q X Y:Prop}{b:Bool}(h:if b=true then p else q/\X)(f:X->Y):if b=true then p else q/\Y:=by
 cases b with
 |true=>exact h
 |false=>exact⟨h.1,f h.2⟩
def Steps(F:Nat->Oper->Prop):Nat->List Oper->Prop
 |_,[]=>True
 |i,o::r=>F i o/\Steps F (i+1) r
theorem Steps.from{F:Nat->Oper->Prop}:∀{i:Nat}{r:List Oper},Steps F i r->∀{j:Nat}{o:Oper},r[j]? = some o->F (i+j) o
 |i,[],_,j,o,h=>by simp at h
 | i,x :: r,h,0,o,ho=>by
   have:x=o:=by simpa using ho
   subst this;exact h.1
 | i,x :: r,h,j+1,o,ho=>by
   have:=Steps.from h.2 (j:=j) (o:=o) (by simpa using ho)
   rwa[XD,Nat.add_comm 1 j]at this
theorem Steps.at{F:Nat->Oper->Prop}{l:List Oper}(h:Steps F 0 l){j:Nat}{o:Oper}(ho:l[j]? = some o):F j o:=by
 have:=h.from ho
 rwa[Yf]at this
def ald(P:Program)(Q:Exit->Act->World->Prop)(R:World->World->Prop)(C:World->Prop)(V:Nat->Value->World->Prop)(sk:Nat->Bool)(l:List Oper)(a0:Act)(i:Nat)(o:Oper):Prop:=
 ∀a w,C w->a.tmps.size=a0.tmps.size->(∀t,gp l t=true->a.tmps.getD t undef=a0.tmps.getD t undef)->
   (∀k,(o.after.toList.any λe=>e.on == k && Region.binds .any e)=true->sk k=false->∀(ok:Oper),l[k]? = some ok->V k (gK ok.dst a) w)->
   if sk i then Region.wanted o (yielded l.toArray a.tmps)=false
   else Region.wanted o (yielded l.toArray a.tmps)=true/\o.wp P a w (λa' w'=>∃v,a'=a.put o.dst v/\R w w'/\V i (kept o.dst v) w') Q
def Sj(P:Program)(Q:Exit->Act->World->Prop)(R:World->World->Prop)(C:World->Prop)(V:Nat->Value->World->Prop)(sk:Nat->Bool)(l:List Oper)(a0:Act):Nat->List Oper->Prop:=Steps (ald P Q R C V sk l a0)
theorem aeU{l:List Oper}{a0:Act}{w:World}(R:World->World->Prop)(C:World->Prop)(V:Nat->Value->World->Prop)(sk:Nat->Bool)(hf:kJ l a0.tmps.size=true)
 (hC:∀w w',R w w'->C w->C w')(hV:∀i v w w',R w w'->V i v w->V i v w')(h0:C w.drew)
 (hstep:Sj P Q R C V sk l a0 0 l)
 (hend:∀a w,C w->a.defers=a0.defers->a.tmps.size=a0.tmps.size->(∀t,gp l t=true->a.tmps.getD t undef=a0.tmps.getD t undef)->
  (∀(i:Nat)(o:Oper),l[i]? = some o->sk i=false->V i (gK o.dst a) w)->Q .normal a w):wpAny P .any l.toArray Q l.toArray.size (Array.replicate l.toArray.size false) a0 w.drew:=
 Gg (λ_=>R) (λ_ _=>C) (λi v _=>V i v) sk (λ_=>none) 0 hf (wH l sk) (.inr rfl) (λ_ _ _ _ _ _ _ _ _ h=>h) (λi _ v _ w w' _=>hV i v w w') h0 (λi o ho _ a w hc hs hold ah _ _ _ _=>zu (hstep.at ho a w hc hs hold ah) (Oper.wp_mono λa' w' ⟨v,e,hr,hv⟩=>⟨v,e,hr,hC _ _ hr hc,hv⟩)) hend
theorem fP{id:Nat}{l:List Oper}{a0:Act}{w:World}(hm:P.follows .mixedOrders=true)(R:World->World->Prop)(C:World->Prop)(V:Nat->Value->World->Prop)(sk:Nat->Bool)(hf:kJ l a0.tmps.size=true)
 (hC:∀w w',R w w'->C w->C w')(hV:∀i v w w',R w w'->V i v w->V i v w')(h0:C w.drew)
 (hstep:Sj P Q R C V sk l a0 0 l)
 (hend:∀a w,C w->a.defers=a0.defers->a.tmps.size=a0.tmps.size->(∀t,gp l t=true->a.tmps.getD t undef=a0.tmps.getD t undef)->
  (∀(i:Nat)(o:Oper),l[i]? = some o->sk i=false->V i (gK o.dst a) w)->Q .normal a w):(Code.region id l.toArray true).wp P Q a0 w:=wp_region_any hm (aeU R C V sk hf hC hV h0 hstep hend)
end
section
def bK(W:World)(g:Nat):Nat->List Value->World
 |_,[]=>W
 |o,v::r=>bK (W.setCell ⟨g,o,none⟩ v) g (o+1) r
def UU:List Value->Nat->List Value->List Value
 |cs,_,[]=>cs
 |cs,o,v::r=>UU (cs.set o v) (o+1) r
theorem BN:∀(vs cs:List Value)(o:Nat),(UU cs o vs).length=cs.length
 | [],_,_=>rfl
 |v::r,cs,o=>by rw[UU,BN r];simp
theorem Bx.bK{g:Nat}{t:TypeId}:∀(vs:List Value){W:World}{cs:List Value}(o:Nat),Bx W g t cs->Bx (bK W g o vs) g t (UU cs o vs)
 | [],_,_,_,h=>h
 |v::r,_,_,o,h=>Bx.bK r (o+1) (h.set o v)
theorem fA.bK{g:Nat}{w:World}:∀(vs:List Value){W:World}(o:Nat),fA (some g) w W->fA (some g) w (bK W g o vs)
 | [],_,_,h=>h
 |v::r,W,o,h=>fA.bK r (o+1) ⟨by simpa using h.1,λk h1 h2=>(zh W ⟨g,o,none⟩ v k (λe=>h2 (Yp some e))).trans (h.2 k h1 h2)⟩
theorem Below.bK{B g:Nat}{w:World}(hg:B<=g):∀(vs:List Value){W:World}(o:Nat),Below B w W->Below B w (bK W g o vs)
 | [],_,_,h=>h
 |v::r,_,o,h=>Below.bK hg r (o+1) (h.setCell hg v)
def Cj(B g:Nat)(t:TypeId)(n:Nat)(D:Nat->World->Prop)(w W:World):Prop:=
 Below B w W/\fA (some g) w W/\((∃cs:List Value,cs.length=n/\Bx w g t cs)->∃cs:List Value,cs.length=n/\Bx W g t cs)/\∀k,D k w->D k W
variable {B g:Nat} {t:TypeId} {n:Nat} {D:Nat->World->Prop} {w W W':World}
theorem Cj.refl:Cj B g t n D w w:=⟨zB _ _,fA.refl _ _,id,λ_=>id⟩
theorem Cj.call(hD:∀k w W,Below w.heap.size w W->D k w->D k W)(hB:B<=w.heap.size)(hb:Below w.heap.size w W):Cj B g t n D w W:=
 ⟨hb.mono hB,(fA.refl _ _).call hb,λ⟨cs,h1,h2⟩=>⟨cs,h1,h2.call hb⟩,λk=>hD k _ _ hb⟩
theorem Cj.store(hg:B<=g)(o:Nat)(vs:List Value)(hD:∀k,D k w->D k (Go.Proofs.YtfnehkmhcmkhjaaGreat.bK w g o vs)):Cj B g t n D w (Go.Proofs.YtfnehkmhcmkhjaaGreat.bK w g o vs):=
 ⟨Below.bK hg vs o (zB _ _),fA.bK vs o (fA.refl _ _),λ⟨cs,h1,h2⟩=>⟨_,by rw[BN];exact h1,h2.bK vs o⟩,hD⟩
end
def kK(x:T.ax):List Value:=[.int .i64 x.num,.int .i64 x.dm,.int .i64 x.st,.int .i64 x.len,.int .i64 x.nx,.int .i64 x.dZ,.int .i64 x.pk]
theorem eH(x:T.ax):(kK x).length=7:=rfl
def bQ(w:World)(v:Value)(l:List T.ax):Prop:=dU w 7 v l.length λi=>kK (T.tr l i)
theorem bQ.keep{w w':World}{v:Value}{l:List T.ax}(h:bQ w v l)(hb:Below w.heap.size w w'):bQ w' v l:=dU.keep h hb
theorem bQ.keepW{w w':World}{v:Value}{l:List T.ax}(h:bQ w v l)(hb:∀k,k<w.heap.size->w'.heap[k]? = w.heap[k]?):bQ w' v l:=dU.keepW h hb
theorem Oh{w:World}{b o:Nat}{x:T.ax}(h:w.rangeAt b o (kK x)):
 w.cell? ⟨b,o,none⟩=some (.int .i64 x.num)/\w.cell? ⟨b,o+1,none⟩=some (.int .i64 x.dm)/\w.cell? ⟨b,o+2,none⟩=some (.int .i64 x.st)/\w.cell? ⟨b,o+3,none⟩=some (.int .i64 x.len)/\
 w.cell? ⟨b,o+4,none⟩=some (.int .i64 x.nx)/\w.cell? ⟨b,o+5,none⟩=some (.int .i64 x.dZ)/\w.cell? ⟨b,o+6,none⟩=some (.int .i64 x.pk):=
 ⟨h 0 _ rfl,h 1 _ rfl,h 2 _ rfl,h 3 _ rfl,h 4 _ rfl,h 5 _ rfl,h 6 _ rfl⟩
theorem bQ.nil(w:World):bQ w (.slice none 0 0) []:=dU.nil _ _ _
def sm(a:Int):Prop:=-1099511627776<=a/\a<=1099511627776
def zQ(x:T.ax):Prop:=sm x.num/\sm x.dm/\sm x.st/\sm x.len/\sm x.nx/\sm x.dZ/\sm x.pk
def KA(l:List T.ax):Prop:=l.length<=110/\∀i,i<l.length->zQ (T.tr l i)
namespace T
instance (cap cl:Int) (l:List ax) (i:Nat):Decidable (okR cap cl l i):=by unfold okR;infer_instance
instance (cap cl:Int) (fin:Bool) (l:List ax):Decidable (aK cap cl fin l):=by unfold aK;infer_instance
def az(cap cl:Int)(fin:Bool)(l:List ax):Bool:=decide (aK cap cl fin l)
theorem bz{cap cl:Int}{fin:Bool}{l:List ax}:az cap cl fin l=true↔aK cap cl fin l:=by unfold az;exact decide_eq_true_iff
theorem dX{cap cl:Int}{fin:Bool}{l:List ax}:az cap cl fin l=false↔¬ aK cap cl fin l:=by unfold az;exact Yv
end T
theorem sizeTrack:(prog.info? 94).map (·.size)=some 7:=by kernel_rfl
end
section
open Go.RowKit
def RB(b:Bool)(w:World)(e:Ending)(w':World):Prop:=e=.returned (.bool b)/\Below w.heap.size w w'
abbrev jL(x:T.ax):Value:=.agg #[.int .i64 x.num,.int .i64 x.dm,.int .i64 x.st,.int .i64 x.len,.int .i64 x.nx,.int .i64 x.dZ,.int .i64 x.pk]
abbrev oI(x:T.ax):Obj:=.cells #[.int .i64 x.num,.int .i64 x.dm,.int .i64 x.st,.int .i64 x.len,.int .i64 x.nx,.int .i64 x.dZ,.int .i64 x.pk] 94
theorem oN(x:T.ax)(w:World)(h1:sm x.st)(h2:sm x.len):
 Calls prog 208 #[jL x] w λe w'=>e=.returned (.int .i64 (x.st+x.len))/\w'=w.alloc (oI x):=by
 unfold sm at h1 h2;go_enter func208,ntmps208;go_wp2;go_ret;exact⟨rfl,rfl⟩
theorem JX(x:T.ax)(w:World):
 Calls prog 316 #[jL x] w λe w'=>e=.returned (.int .i64 (if x.nx=x.st then 0 else 1))/\w'=w.alloc (oI x):=by
 by_cases h:x.nx=x.st
 ·have hd:(x.nx == x.st)=true:=by rw[YG];exact h
  rw[zj h];clear h;go_enter func316,ntmps316;go_wp2;go_ret;exact⟨rfl,rfl⟩
 ·have hd:(x.nx == x.st)=false:=by rw[Yc];exact h
  rw[zi h];go_enter func316,ntmps316;go_wp2;go_ret;exact⟨rfl,rfl⟩
theorem Eb(x:T.ax)(w:World)(h1:sm x.st)(h2:sm x.len):
 Calls prog 315 #[jL x] w λe w'=>e=.returned (jL {x with dZ:=2,nx:=x.st+x.len})/\Below w.heap.size w w':=by
 go_enter func315,ntmps315;go_wp2_with (refine(oN x _ h1 h2).mono ?_;rintro e w' ⟨rfl,rfl⟩);refine zr (v:=jL {x with dZ:=2,nx:=x.st+x.len}) (by simp[results,results315,go_sem]) rfl ⟨rfl,?_⟩;exact(((zB _ _).alloc (zl _) _).alloc (by simp) _).alloc (by simp;omega) _
theorem AZ(v:Value)(n:Nat)(l:List T.ax)(s:Int)(w:World)(hr:dU w 7 v n λi=>kK (T.tr l i))(hn:n<=110)(hs:∀i,i<n->zQ (T.tr l i)):
 Calls prog 240 #[v,.int .i64 s] w λe w'=>e=.returned (.int .i64 (if n=0 then 0 else if (T.tr l (n-1)).dm<s then(T.tr l (n-1)).st+(T.tr l (n-1)).len+16 else(T.tr l (n-1)).st+(T.tr l (n-1)).len))/\Below w.heap.size w w':=by
 obtain⟨a,c,b,off,rfl,hac,hcell⟩:=hr;by_cases h0:n=0
 ·subst h0;clear hcell hs;rw[zj rfl];go_enter func240,ntmps240;go_wp2;go_ret;exact⟨rfl,zB _ _⟩
 ·rw[zi h0];obtain⟨m,rfl⟩:∃m,n=m+1:=⟨n-1,by omega⟩;simp only[XM];obtain⟨ha,hrg⟩:=hcell m (by omega);simp only at hrg;obtain⟨sm1,sm2,Nz,NC,sm5,sm6,sm7⟩:=hs m (by omega);clear hcell hs h0;generalize T.tr l m=x at *;have hix:=λw'=>aB underlying35 sizeTrack (cap:=c) ha (Nat.lt_succ_self m) (m:Int) rfl w'
  have hm1:(((m+1:Nat):Int)-1)=m:=by omega
  have hz:(((m+1:Nat):Int) == 0)=false:=by rw[Yc];omega
  have hz2:((m:Int)+1 == 0)=false:=by rw[Yc];omega
  obtain⟨hc0,hc1,hc2,hc3,hc4,hc5,hc6⟩:=Oh hrg;clear hrg;have Ha:=zH ha;clear ha;have hb3:=Nz;have hb4:=NC;unfold sm at hb3 hb4;by_cases hc:x.dm<s
  ·have hd:decide (x.dm<s)=true:=zt hc;rw[zj hc];clear hc;go_enter func240,ntmps240;go_wp2_with (refine(oN x _ Nz NC).mono ?_;rintro e w' ⟨rfl,rfl⟩);go_ret;exact⟨rfl,((zB _ _).alloc (zl _) _).alloc (by simp) _⟩
  ·have hd:decide (x.dm<s)=false:=zf hc;rw[zi hc];clear hc;go_enter func240,ntmps240;go_wp2_with (refine(oN x _ Nz NC).mono ?_;rintro e w' ⟨rfl,rfl⟩);go_ret;exact⟨rfl,((zB _ _).alloc (zl _) _).alloc (by simp) _⟩
def abO(w:World)(g:Nat)(cl:Int)(fin:Bool)(sv:Value):Prop:=w.cell? ⟨g,0,none⟩=some (.int .i64 cl)/\w.cell? ⟨g,1,none⟩=some (.bool fin)/\w.cell? ⟨g,2,none⟩=some sv
theorem aaX(v:Value)(n:Nat)(x:T.ax)(f:Nat->List Value)(w:World)(hr:dU w 7 v n f)(hn:n<=110):
 Calls prog 307 #[v,jL x] w (RB (decide (x.num=n+1)) w):=by
 obtain⟨a,c,b,off,rfl,hac,hcell⟩:=hr;clear hcell;by_cases h:x.num=n+1
 ·have hd:(x.num == (n:Int)+1)=true:=by rw[YG];exact h
  rw[zt h];clear h;go_enter func307,ntmps307;go_wp2;go_ret;exact⟨rfl,(zB _ _).alloc (zl _) _⟩
 ·have hd:(x.num == (n:Int)+1)=false:=by rw[Yc];exact h
  rw[zf h];clear h;go_enter func307,ntmps307;go_wp2;go_ret;exact⟨rfl,(zB _ _).alloc (zl _) _⟩
def R2(k:Nat)(a s:Int):Bool:=decide ((k=0->a=1)/\(0<k->a-s=0\/a-s=1))
theorem aaY(v:Value)(n:Nat)(l:List T.ax)(x:T.ax)(w:World)(hr:dU w 7 v n λi=>kK (T.tr l i))(hn:n<=110)(hs:∀i,i<n->zQ (T.tr l i))(hx:sm x.dm):
 Calls prog 308 #[v,jL x] w (RB (R2 n x.dm (T.tr l (n-1)).dm) w):=by
 obtain⟨a,c,b,off,rfl,hac,hcell⟩:=hr;by_cases h0:n=0
 ·subst h0;clear hcell hs;by_cases h:x.dm=1
  ·have hd:(x.dm == 1)=true:=by rw[YG];exact h
   have hR:R2 0 x.dm (T.tr l (0-1)).dm=true:=by simp[R2,h]
   rw[hR];clear h hR;go_enter func308,ntmps308;go_wp2;go_ret;exact⟨rfl,(zB _ _).alloc (zl _) _⟩
  ·have hd:(x.dm == 1)=false:=by rw[Yc];exact h
   have hR:R2 0 x.dm (T.tr l (0-1)).dm=false:=by simp[R2,h]
   rw[hR];clear h hR;go_enter func308,ntmps308;go_wp2;go_ret;exact⟨rfl,(zB _ _).alloc (zl _) _⟩
 ·obtain⟨m,rfl⟩:∃m,n=m+1:=⟨n-1,by omega⟩;simp only[XM];obtain⟨ha,hrg⟩:=hcell m (by omega);simp only at hrg;obtain⟨sm1,sm2,Nz,NC,sm5,sm6,sm7⟩:=hs m (by omega);clear hcell hs h0;generalize T.tr l m=y at *;have hix:=λw'=>aB underlying35 sizeTrack (cap:=c) ha (Nat.lt_succ_self m) (m:Int) rfl w'
  have hm1:(((m+1:Nat):Int)-1)=m:=by omega
  have hz:(((m+1:Nat):Int) == 0)=false:=by rw[Yc];omega
  have hz2:((m:Int)+1 == 0)=false:=by rw[Yc];omega
  obtain⟨hc0,hc1,hc2,hc3,hc4,hc5,hc6⟩:=Oh hrg;have hbl:=zc w _ hc0;simp only at hbl;clear hrg;have Ha:=zH ha;clear ha;unfold sm at sm2 hx;have hR:R2 (m+1) x.dm y.dm=(decide (x.dm-y.dm=0) || decide (x.dm-y.dm=1)):=by rw[YJ];simp[R2]
  have HR:=zH hR;clear hR;go_enter func308,ntmps308;go_wp2;go_quiet (fail);go_wp2;all_goals
   go_ret;refine⟨iT ?_,Below.drewN ((zB _ _).alloc (zl _) _) _⟩;rw[HR.out]
   (try simp only[Yc,ne_eq]at *) <;> (rw[YJ];(try simp) <;> (try omega))
theorem aaZ(v:Value)(x:T.ax)(g:Nat)(cl:Int)(fin:Bool)(sv:Value)(w:World)(hg:abO w g cl fin sv)(hg1:g<w.heap.size)(hc:-9223372036854775808<=cl)(hc2:cl<=16):
 Calls prog 309 #[v,jL x,.pointer (some ⟨g,0,none⟩)] w (RB (decide (x.dm<=cl+1/\x.dm<=16/\(cl<x.dm\/x.dZ=2))) w):=by
 obtain⟨hg3,hg4,hg5⟩:=hg;go_enter func309,ntmps309;go_wp2;all_goals
  go_ret;refine⟨iT ?_,(zB _ _).alloc (zl _) _⟩
  (try simp only at *) <;> (rw[YJ];(try simp) <;> (try omega))
theorem aa0(v:Value)(x:T.ax)(g:Nat)(cl:Int)(fin:Bool)(sv:Value)(w:World)(hg:abO w g cl fin sv)(hg1:g<w.heap.size):
 Calls prog 310 #[v,jL x,.pointer (some ⟨g,0,none⟩)] w (RB (decide (fin=true->x.dm<=cl)) w):=by
 obtain⟨hg3,hg4,hg5⟩:=hg;cases fin;all_goals
  go_enter func310,ntmps310;go_wp2;all_goals
   go_ret;refine⟨iT ?_,(zB _ _).alloc (zl _) _⟩
   (try simp only[YG,XV,Yc,Xe,ne_eq]at *) <;> (rw[YJ];(try simp) <;> (try omega))
theorem aa2(v:Value)(x:T.ax)(g:Nat)(cap:Int)(w:World)(hg:w.cell? ⟨g,0,none⟩=some (.int .i64 cap))(hg1:g<w.heap.size)(hc:1<=cap)(hc2:cap<=449849)(hx:sm x.st)(hx2:sm x.len):
 Calls prog 312 #[v,jL x,.pointer (some ⟨g,0,none⟩)] w (RB (decide (1<=x.len/\x.len<=cap/\x.st<=cap-x.len)) w):=by
 unfold sm at hx hx2;go_enter func312,ntmps312;go_wp2;all_goals
  go_ret;refine⟨iT ?_,(zB _ _).alloc (zl _) _⟩
  (try simp only[YG,XV,Yc,Xe,ne_eq]at *) <;> (rw[YJ];(try simp) <;> (try omega))
theorem aa3(v:Value)(x:T.ax)(w:World)(hx:zQ x):
 Calls prog 313 #[v,jL x] w (RB (decide (x.pk=0\/1<=x.pk/\x.pk<=1024/\x.len.tmod x.pk=0/\(x.nx-x.st).tmod x.pk=0)) w):=by
 obtain⟨sm1,sm2,Nz,NC,sm5,sm6,sm7⟩:=hx;unfold sm at sm1 sm2 Nz NC sm5 sm6 sm7;by_cases h0:x.pk=0
 ·have hd:(x.pk == 0)=true:=by rw[YG];exact h0
  rw[zt (.inl h0)];clear h0;go_enter func313,ntmps313;go_wp2;go_ret;exact⟨rfl,(zB _ _).alloc (zl _) _⟩
 ·have hd:(x.pk == 0)=false:=by rw[Yc];exact h0
  go_enter func313,ntmps313;go_wp2
  go_ways
  all_goals
   go_ret;refine⟨iT ?_,(zB _ _).alloc (zl _) _⟩
   (try simp only[Yc,ne_eq]at *) <;> (rw[YJ];(try simp) <;> (try omega))
theorem aa1(v:Value)(n:Nat)(l:List T.ax)(x:T.ax)(w:World)(hr:dU w 7 v n λi=>kK (T.tr l i))(hn:n<=110)(hs:∀i,i<n->zQ (T.tr l i))(hx:sm x.dm):
 Calls prog 311 #[v,jL x] w (RB (decide (x.st=if n=0 then 0 else if (T.tr l (n-1)).dm<x.dm then(T.tr l (n-1)).st+(T.tr l (n-1)).len+16 else(T.tr l (n-1)).st+(T.tr l (n-1)).len)) w):=by
 have hst:=λW hW=>AZ v n l x.dm W hW hn hs
 generalize (if n=0 then 0 else if (T.tr l (n-1)).dm<x.dm then(T.tr l (n-1)).st+(T.tr l (n-1)).len+16 else(T.tr l (n-1)).st+(T.tr l (n-1)).len)=y at *;have hb1:=(zB w.heap.size w).alloc (zl _) (oI x);have hr1:=dU.keep hr hb1;have HST:=zH hst;clear hst;go_enter func311,ntmps311;go_wp2
 go_region_with (go_at_call 240;refine(HST.out _ (by exact hr1)).mono ?_;rintro e w1 ⟨rfl,hb⟩;have hbx:w1.cell? ⟨w.heap.size,2,none⟩=some (.int .i64 x.st):=(hb.cell (p:=⟨w.heap.size,2,none⟩) (by simp)).trans (by simp[go_sem]);have hB:Below w.heap.size w w1:=(Below.alloc (zB _ _) (zl _) _).drew.trans (hb.mono (by simp)))
 all_goals
  go_wp2;go_ret;refine⟨iT ?_,hB⟩;rw[YJ];simp
end
end Go.Proofs.YtfnehkmhcmkhjaaGreat
