/- Parts -/
import Derived.Test.YtfnehkmhcmkhjaaGreatDuAl
import Derived.WalkKit
import Derived.Test.YtfnehkmhcmkhjaaGreatDu00
import Derived.Lib.Hide
import Derived.Deep.QuietTactic
import Derived.BigQuiet
import Derived.StillTailTactics
import Derived.Test.YtfnehkmhcmkhjaaGreatChecked
set_option maxRecDepth 100000
set_option maxHeartbeats 8000000
set_option linter.unusedVariables false
set_option linter.unusedSimpArgs false
namespace Go.Proofs.YtfnehkmhcmkhjaaGreat
open Tryz
section
open Go.RowKit
theorem QZ{k:IntKind}{a b:Int}(h:a=b):Ending.returned (.int k a)=.returned (.int k b):=by rw[h]
theorem iT{a b:Bool}(h:a=b):Ending.returned (.bool a)=.returned (.bool b):=by rw[h]
theorem Below.setRow{B:Nat}{a w:World}(h:Below B a w){g:Nat}(hp:B<=g)(cs:Array Value):Below B a (w.setRow g cs):=
 h.trans ⟨rfl,rfl,rfl,by simp,λk hk=>setRow_other _ _ _ _ (by omega)⟩
theorem Below.drewN{B:Nat}{a w:World}(h:Below B a w)(n:Nat):Below B a (w.drewN n):=h.trans ⟨rfl,rfl,rfl,zl _,λ_ _=>rfl⟩
theorem Wu{x y:Int}(a b:Nat)(hx:x=a)(hy:y=b)(ha:a<256)(hb:b<256):bits .xor .u8 x y=((a^^^b:Nat):Int):=by subst hx hy;exact u8_xor_nat a b ha hb
theorem and_one(b:Nat)(h:b<256):bits .and .u8 (b:Int) 1=((b%2:Nat):Int):=by have:=u8_and_nat b 1 h (by omega);rw[Nat.and_one_is_mod]at this;exact this
theorem IJ{P:Program}(w:World){t e:TypeId}{n:Nat}{d:TypeDesc}(ht:P.underlying t=some (.array n e))(he:P.underlying e=some d)(hd:(match d with|.struct _|.array _ _=>true|_=>false)=false)
 (hs:(P.info? e).map (·.size)=some 1)(cs:Array Value)(i:Nat)(hi:i<n)(v:Value)(hv:cs[i]? = some v):
 (Instr.index t (.agg cs) (.int .i64 (i:Int))).run P w=.ok v w:=by
 cases hq:P.info? e with
 |none=>simp[hq]at hs
 | some inf=>
   have h1:inf.size=1:=by simpa[hq]using hs
   have hagg:(isAgg e).run P w=.ok false w:=by unfold isAgg;rw[Sem.run_bind,YH he w];cases d <;> simp_all
   simp[Instr.index,asIntOf,YH ht,sizeOf,typeInfo,hq,h1,hi,part,hagg,hv,Sem.run_bind]
abbrev B(c:UInt8):Value:=.int .u8 (c.toNat:Int)
def bs(l:List UInt8):List Value:=l.map B
theorem bf(l:List UInt8):(bs l).length=l.length:=by simp[bs]
theorem jh{l:List UInt8}{i:Nat}(h:i<l.length):(bs l)[i]? = some (B (G.ix l i)):=by simp[bs,G.ix,h]
theorem Ac(l:List UInt8)(i:Nat)(c:UInt8):(bs l).set i (B c)=bs (l.set i c):=by simp[bs]
theorem uI(l m:List UInt8):bs (l++m)=bs l++bs m:=by simp[bs]
theorem qQ(n:Nat)(c:UInt8):bs (List.replicate n c)=List.replicate n (B c):=by simp[bs]
theorem SH(l:List UInt8):∀u∈bs l,u.oneCell'=true:=by intro u hu;simp only[bs,YW]at hu;obtain⟨c,_,rfl⟩:=hu;rfl
def Rd(w:World)(v:Value)(l:List UInt8):Prop:=
 l.length<=140737488351232/\∃a cap b off,v=.slice a l.length cap/\l.length<=cap/\∀i,i<l.length->a=some ⟨b,off,none⟩/\w.cell? ⟨b,off+i,none⟩=some (B (G.ix l i))
theorem Rd.form{w:World}{v:Value}{l:List UInt8}(h:Rd w v l):∃a c,v=.slice a l.length c:=by obtain⟨_,a,c,_,_,rfl,_⟩:=h;exact⟨a,c,rfl⟩
theorem Rd.cases{w:World}{v:Value}{l:List UInt8}(h:Rd w v l):l.length<=140737488351232/\((∃a cap,v=.slice a 0 cap/\l = [])\/
 ∃b off cap,v=.slice (some ⟨b,off,none⟩) l.length cap/\l≠[]/\∀i,i<l.length->w.cell? ⟨b,off+i,none⟩=some (B (G.ix l i))):=by
 obtain⟨h0,a,c,b,off,rfl,hc,h⟩:=h;refine⟨h0,?_⟩;by_cases hl:l = []
 ·subst hl;exact .inl ⟨_,_,rfl,rfl⟩
 ·obtain⟨rfl,_⟩:=h 0 (YM.2 hl);exact .inr ⟨_,_,_,rfl,hl,λi hi=>(h i hi).2⟩
theorem Rd.keepW{w w':World}{v:Value}{l:List UInt8}(h:Rd w v l)(hb:∀k,k<w.heap.size->w'.heap[k]? = w.heap[k]?):Rd w' v l:=by obtain⟨h0,a,c,b,off,rfl,hc,h⟩:=h;refine⟨h0,a,c,b,off,rfl,hc,λi hi=>⟨(h i hi).1,?_⟩⟩;have e:=(h i hi).2;rw[<-e];exact XC (hb b (zc w _ e))
theorem Rd.keep{w w':World}{v:Value}{l:List UInt8}(h:Rd w v l)(hb:Below w.heap.size w w'):Rd w' v l:=h.keepW hb.block
theorem Rd.bg{w:World}{base e:Nat}{v:Value}{l:List UInt8}(h:w.ownsRow base e 1 v l.length (bs l))(hl:l.length<=140737488351232):Rd w v l:=by
 refine⟨hl,?_⟩;rcases h.2 with ⟨rfl,h0⟩|⟨g,cap,cur,rfl,hg,hh,hn,hm,hcs,ht⟩
 ·rw[h0];exact⟨none,0,0,0,rfl,by omega,λi hi=>by omega⟩
 ·refine⟨_,cap,g,0,rfl,hn,λi hi=>⟨rfl,?_⟩⟩;rw[Yf,h.cellAt i (by omega),jh hi]
theorem agO(l:List UInt8)(k i:Nat):G.ix (l.drop k) i=G.ix l (k+i):=by simp[G.ix,List.getElem?_drop]
theorem uS{l:List UInt8}{k i:Nat}(h:i<k):G.ix (l.take k) i=G.ix l i:=by simp[G.ix,h]
section
variable {P:Program} {t e:TypeId}
theorem bJ(ht:P.underlying t=some (.slice e))(hs:(P.info? e).map (·.size)=some 1){a:Option Addr}{n cap b off k:Nat}(ha:a=some ⟨b,off,none⟩)(hk:k<n)(i:Int)(hi:i=k)(w:World):
 (Instr.indexAt t (.slice a n cap) (.int .i64 i)).run P w=.ok (.pointer (some ⟨b,off+k,none⟩)) w:=by
 subst ha hi;cases hq:P.info? e with
 |none=>simp[hq]at hs
 | some i=>
   have h1:i.size=1:=by simpa[hq]using hs
   simp[Instr.indexAt,YH ht,asIntOf,sizeOf,typeInfo,hq,h1,hk,Addr.add]
theorem Y2(ht:P.underlying t=some (.slice e))(hs:(P.info? e).map (·.size)=some 1){v:Value}{l:List UInt8}{w:World}(h:Rd w v l)(lo hi:Nat)(h1:lo<=hi)(h2:hi<=l.length):
 ∃v',Rd w v' ((l.take hi).drop lo)/\(∀(x y:Int)(w':World),x=lo->y=hi->(Instr.slice t v (some (.int .i64 x)) (some (.int .i64 y)) none).run P w'=.ok v' w')/\
   (hi=l.length->∀(x:Int)(w':World),x=lo->(Instr.slice t v (some (.int .i64 x)) none none).run P w'=.ok v' w')/\
   (lo=0->∀(y:Int)(w':World),y=hi->(Instr.slice t v none (some (.int .i64 y)) none).run P w'=.ok v' w'):=by
 obtain⟨h0,a,c,b,off,rfl,hc,hcell⟩:=h;cases hq:P.info? e with
 |none=>simp[hq]at hs
 | some i=>
   have hs1:i.size=1:=by simpa[hq]using hs
   have hL:((l.take hi).drop lo).length=hi-lo:=by rw[List.length_drop,Yk];omega
   refine⟨.slice (if c=lo then a else a.map (·.add (lo*1))) (hi-lo) (c-lo),⟨by rw[hL];omega,?_⟩,?_,?_,?_⟩
   ·refine⟨_,_,b,off+lo,by rw[hL],by rw[hL];omega,λj hj=>?_⟩;have hj':j<hi-lo:=by rw[hL]at hj;exact hj
    obtain⟨e1,e2⟩:=hcell (lo+j) (by omega);refine⟨by rw[zi (by omega),e1];simp[Addr.add],?_⟩;rw[agO,uS (by omega),XD];exact e2
   ·rintro x y w' rfl rfl;simp[Instr.slice,YH ht,Instr.sliceBounds,run_sliceBound,sizeOf,typeInfo,hq,hs1,(by omega:hi<=c),(by omega:(lo:Int)<=hi)]
   ·rintro rfl x w' rfl;simp[Instr.slice,YH ht,Instr.sliceBounds,run_sliceBound,sizeOf,typeInfo,hq,hs1,h1]
   ·rintro rfl y w' rfl;simp[Instr.slice,YH ht,Instr.sliceBounds,run_sliceBound,sizeOf,typeInfo,hq,(by omega:hi<=c)]
end
def Reads(w:World)(size:Nat)(v:Value)(n:Nat)(xs:List Value):Prop:=
 xs.length=n*size/\∃a cap b off,v=.slice a n cap/\n<=cap/\∀i u,xs[i]? = some u->a=some ⟨b,off,none⟩/\w.cell? ⟨b,off+i,none⟩=some u
theorem Rd.reads{w:World}{v:Value}{l:List UInt8}(h:Rd w v l):Reads w 1 v l.length (bs l):=by
 obtain⟨h0,a,c,b,off,rfl,hc,hcell⟩:=h;refine⟨by simp[bf],a,c,b,off,rfl,hc,λi u hu=>?_⟩;have hi:i<l.length:=by have:=(Yr.1 hu).1;rwa[bf]at this
 rw[jh hi]at hu;obtain rfl:=zs hu;exact hcell i hi
section
variable {P:Program}
theorem Y0{t ty e:TypeId}{i:TypeInfo}{z:Value}{size bytes base:Nat}(ht:P.underlying t=some (.slice e))(hi:P.info? e=some i)(hz:i.zero=some z)(hsize:i.size=size)(hby:i.bytes=bytes)(hzs:z.cells.size=size)(hsz:0<size)
 {w:World}{v:Value}{n:Nat}{xs:List Value}(hown:w.ownsRow base e size v n xs){s:Value}{m:Nat}{news:List Value}(hs:Reads w size s m news)(h1:∀u∈news,u.oneCell'=true)
 (h63:n+m<=maxLen)(hbytes:(n+m)*bytes<=140737488355328)(hbase:base<=w.heap.size):
 ∃v' w',(Builtin.append_ #[t,t] ty #[v,s]).run P w=.ok v' w'/\w'.ownsRow base e size v' (n+m) (xs++news)/\w.grownBy w' v.ownBlock/\(v'=.slice none 0 0↔v=.slice none 0 0/\m=0):=by
 obtain⟨hl,a,c,b,off,rfl,hc,hcell⟩:=hs;cases a with
 | some ad=>
   by_cases hm:news = []
   ·subst hm;have h0:m*size=0:=by simpa using hl.symm
    obtain⟨v',w',r1,r2,r3,r4⟩:=run_append_own (P:=P) w base t ty e i z size bytes ht hi hz hsize hby hzs hsz v n xs hown ad m c [] hl (λj u hu=>by simp at hu) (λu hu=>by cases hu) h63 hbytes hbase;exact⟨v',w',r1,r2,r3,r4⟩
   ·obtain⟨u0,hu0⟩:∃u,news[0]? = some u:=⟨_,Ye (YM.2 hm)⟩;have hb:=(hcell 0 u0 hu0).1;obtain rfl:=zs hb;obtain⟨v',w',r1,r2,r3,r4⟩:=run_append_own (P:=P) w base t ty e i z size bytes ht hi hz hsize hby hzs hsz v n xs hown ⟨b,off,none⟩ m c news hl (λj u hu=>by rw[XF];exact(hcell j u hu).2) h1 h63 hbytes hbase;exact⟨v',w',r1,r2,r3,r4⟩
 | none=>
   have hm:news = []:=by
    cases news with
    |nil=>rfl
    |cons u us=>have:=(hcell 0 u rfl).1;cases this
   subst hm;have h0:m=0:=by
    have:m*size=0:=by simpa using hl.symm
    rcases Nat.mul_eq_zero.1 this with h|h
    ·exact h
    ·omega
   subst h0;refine⟨v,w,?_,by simpa using hown,World.grownBy.refl _ _,by simp⟩;rcases hown.2 with ⟨rfl,rfl⟩|⟨g,cap,cur,rfl,_,_,hnc,_⟩
   ·simp[Builtin.append_,YH ht,sizeOf,typeInfo,hi,Builtin.lenOf,Builtin.firstCells]
   ·simp[Builtin.append_,YH ht,sizeOf,typeInfo,hi,Builtin.lenOf,Builtin.firstCells,hnc,storeCells]
theorem oH{ops:Array Oper}{rest:List Oper}{o:Oper}{a:Act}{Q:Exit->Act->World->Prop}{w:World}(hg:o.guard=none)(s x:Operand){t:TypeId}
 (hop:o.op=.call {callee:=.builtin .append,args:=#[s,x],argTypes:=#[t,t]}){e:TypeId}{i:TypeInfo}{z:Value}{size bytes base:Nat}
 (ht:P.underlying t=some (.slice e))(hi:P.info? e=some i)(hz:i.zero=some z)(hsize:i.size=size)(hby:i.bytes=bytes)(hzs:z.cells.size=size)(hsz:0<size)
 {v:Value}{n:Nat}{xs:List Value}(hown:w.ownsRow base e size v n xs)(hv:a.eval s=v){vs:Value}{m:Nat}{news:List Value}(hs:Reads w size vs m news)(hx:a.eval x=vs)(h1:∀u∈news,u.oneCell'=true)
 (h63:n+m<=maxLen)(hbytes:(n+m)*bytes<=140737488355328)(hbase:base<=w.heap.size)
 (hK:∀v' w',w'.ownsRow base e size v' (n+m) (xs++news)->w.grownBy w' v.ownBlock->(v'=.slice none 0 0↔v=.slice none 0 0/\m=0)->wpList P ops Q rest (a.put o.dst v') w'):wpList P ops Q (o::rest) a w:=by
 refine wpList_plain hg λK hK'=>?_
 obtain⟨v',w',hrun,r1,r2,r3⟩:=Y0 (ty:=o.type) ht hi hz hsize hby hzs hsz hown hs h1 h63 hbytes hbase;unfold Oper.wp;simp[execOp,hop,resolve,invoke,builtin,hv,hx,hrun,Result.andThen];exact hK' _ _ (hK v' w' r1 r2 r3)
end
def slen:Value->Nat
 |.slice _ n _=>n
 |_=>0
theorem FI{w:World}{base e size n:Nat}{v:Value}{xs:List Value}(h:w.ownsRow base e size v n xs)(hv:v≠ .slice none 0 0):∃g cap,v=.slice (some ⟨g,0,none⟩) n cap/\base<=g/\g<w.heap.size/\n<=cap:=by
 rcases h.2 with ⟨h,_⟩|⟨g,cap,cur,rfl,hb,hg,hn,_⟩
 ·exact(hv h).elim
 ·exact⟨g,cap,rfl,hb,(Yd.1 hg).1,hn⟩
theorem Au{w:World}{base e:Nat}{v:Value}{m:Nat}(h:w.ownsRow base e 1 v m (madeCells (Value.int .u8 0).cells (m*1)).toList):w.ownsRow base e 1 v m (bs (List.replicate m 0)):=by
 have e1:(madeCells (Value.int .u8 0).cells (m*1)).toList=bs (List.replicate m 0):=by simp only[Value.cells,toList_madeCells_one,qQ,Yy];rfl
 rw[<-e1];exact h
theorem fM{P:Program}{w:World}{ops:Array Oper}{rest:List Oper}{o:Oper}{a:Act}{Q:Exit->Act->World->Prop}
 (hg:o.guard=none)(l c:Operand){t:TypeId}(hop:o.op=Op.makeSlice t l c)
 {base:Nat}{e:TypeId}(h1:P.underlying t=some (.slice e))(h2:(P.info? e).map (λi=>(i.zero,i.size,i.bytes))=some (some (.int .u8 0),1,1))
 {L C:Int}(n:Nat)(hl:a.eval l=.int .i64 L)(hc:a.eval c=.int .i64 C)(hL:L=(n:Int))(hC:C=(n:Int))(b3:n<=281474976710656)(b4:base<=w.heap.size)
 (hK:∀w',w'.ownsRow base e 1 (.slice (some ⟨w.heap.size,0,none⟩) n n) n (bs (List.replicate n 0))->w.grownBy w' none->wpList P ops Q rest (a.put o.dst (.slice (some ⟨w.heap.size,0,none⟩) n n)) w'):
 wpList P ops Q (o::rest) a w:=by
 obtain⟨i0,hi,hz0,hz1,hz2⟩:=info_parts h2;exact wpList_make_full w hg l c t hop base e i0 _ 1 h1 hi hz0 hz1 .i64 .i64 L C n hl hc hL hC (by rw[hz2];omega) (by unfold maxLen;omega) b4 λw' h3 h4=>hK w' (Au h3) h4
theorem pg{P:Program}{ops:Array Oper}{rest:List Oper}{o:Oper}{a:Act}{Q:Exit->Act->World->Prop}{w:World}(hg:o.guard=none)(s x:Operand){t:TypeId}
 (hop:o.op=.call {callee:=.builtin .append,args:=#[s,x],argTypes:=#[t,t]}){e:TypeId}{base:Nat}
 (ht:P.underlying t=some (.slice e))(h2:(P.info? e).map (λi=>(i.zero,i.size,i.bytes))=some (some (.int .u8 0),1,1))
 {v:Value}{n:Nat}{l:List UInt8}(hown:w.ownsRow base e 1 v n (bs l))(hv:a.eval s=v){vs:Value}{m:List UInt8}(hs:Rd w vs m)(hx:a.eval x=vs)
 (h63:n+m.length<=140737488355328)(hbase:base<=w.heap.size)
 (hK:∀v' w',w'.ownsRow base e 1 v' (n+m.length) (bs (l++m))->w.grownBy w' v.ownBlock->(v'=.slice none 0 0↔v=.slice none 0 0/\m.length=0)->wpList P ops Q rest (a.put o.dst v') w'):wpList P ops Q (o::rest) a w:=by
 obtain⟨i0,hi,hz0,hz1,hz2⟩:=info_parts h2;refine oH hg s x hop ht hi hz0 hz1 hz2 rfl (by omega) hown hv hs.reads hx (SH m) (by unfold maxLen;omega) (by omega) hbase λv' w' g1 g2 g3=>?_
 rw[<-uI]at g1;exact hK v' w' g1 g2 g3
theorem iQ{w:World}{base base' e size n:Nat}{v:Value}{xs:List Value}(h:w.ownsRow base e size v n xs)(hb:base'<=base):w.ownsRow base' e size v n xs:=by
 refine⟨h.1,?_⟩;rcases h.2 with h|⟨g,cap,cur,hv,hg,r⟩
 ·exact .inl h
 ·exact .inr ⟨g,cap,cur,hv,zT hb hg,r⟩
def str(l:List UInt8):ByteArray:=⟨l.toArray⟩
theorem au(l:List UInt8):(str l).size=l.length:=by simp[str,ByteArray.size]
theorem Ri(s:ByteArray):s=str s.data.toList:=by simp[str]
theorem rU(l:List UInt8):(str l).toList=l:=ByteArray.toList_mk l
theorem eX{P:Program}{src dst e:TypeId}(hs:P.underlying src=some (.slice e))(he:P.underlying e=some (.int .u8))(hd:P.underlying dst=some .string)
 {w:World}{v:Value}{l:List UInt8}(h:Rd w v l):(convert src dst v).run P w=.ok (.string (str l)) w:=by
 obtain⟨h0,a,c,b,off,rfl,hc,hcell⟩:=h;by_cases hl:l = []
 ·subst hl;simp only[YC];cases a with
  |none=>exact run_convert_bytes_nil w src e hs he _ _ dst hd
  | some ad=>
    rw[run_convert_bytes_string w src dst e _ _ c hs he hd];rw[run_bytesToString w ad 0 c [] (by simpa using run_loadCells_list (P:=P) w ad [] (λj v hj=>by simp at hj))];rfl
 ·obtain⟨rfl,_⟩:=hcell 0 (YM.2 hl);rw[run_convert_bytes_arg w src e hs he b off _ c (l.map λc=>(c.toNat:Int)) (by simp) (λi hi=>by
   rw[(hcell i hi).2];simp[G.ix,Ya,Xp,Ye hi]) dst hd]
  have e1:(l.map λc=>(c.toNat:Int)).map (λn=>UInt8.ofNat n.toNat)=l:=by
   rw[List.map_map]
   conv=>rhs;rw[<-List.map_id l]
   exact Xo λc _=>by simp
  unfold strOfNums str;rw[e1]
theorem Rd.nU{w:World}{base e n:Nat}{v:Value}{l:List UInt8}(h:w.ownsRow base e 1 v n (bs l))(hl:n<=140737488351232):Rd w v l:=by
 have e1:n=l.length:=by have:=h.1;simp[bf]at this;omega
 subst e1;exact Rd.bg h hl
theorem Aq{w:World}{base e n cap g:Nat}{a:Option Addr}{l:List UInt8}(h:w.ownsRow base e 1 (.slice a n cap) n (bs l))(ha:a=some ⟨g,0,none⟩)(j:Nat)(hj:j<n):w.cell? ⟨g,j,none⟩=some (B (G.ix l j)):=by
 subst ha;have hl:l.length=n:=by have:=h.1;simpa[bf]using this
 rw[h.cellAt j (by omega),jh (by omega)]
theorem uo{w:World}{base e n cap g:Nat}{a:Option Addr}{l:List UInt8}(h:w.ownsRow base e 1 (.slice a n cap) n (bs l))(ha:a=some ⟨g,0,none⟩)(j:Nat):w.frozen? ⟨g,j,none⟩=false:=by subst ha;exact h.frozenAt j
theorem wX{w:World}{base e n cap g:Nat}{a:Option Addr}{l:List UInt8}(h:w.ownsRow base e 1 (.slice a n cap) n (bs l))(ha:a=some ⟨g,0,none⟩)(j:Nat)(c:UInt8):(w.setCell ⟨g,j,none⟩ (B c)).ownsRow base e 1 (.slice a n cap) n (bs (l.set j c)):=by subst ha;have:=(h.stored j (B c)).1;rwa[Ac]at this
theorem OI(a b:UInt8):((a.toNat:Int) == (b.toNat:Int))=decide (a=b):=by
 by_cases h:a=b
 ·subst h;simp
 ·simp only[h,decide_false,Yc];intro e;exact h (G.ext (by omega))
theorem Ea(a b:UInt8):((a.toNat:Int) != (b.toNat:Int))=decide (a≠b):=by have:=OI a b;simp[bne,this]
theorem Ad(a:UInt8):((a.toNat:Int) == 0)=decide (a=0):=OI a 0
theorem ZE(a:UInt8):((a.toNat:Int) != 0)=decide (a≠0):=Ea a 0
theorem Jn{P:Program}{f:FuncId}{args:Array Value}{w:World}{v:Ending}(h:Calls P f args w λe w'=>e=v/\w=w'):Calls P f args w λe w'=>e=v/\w'=w:=
 h.mono λ_ _ ⟨a,b⟩=>⟨a,b.symm⟩
theorem GH(a b:UInt8):bits .xor .u8 (a.toNat:Int) (b.toNat:Int)=((a^^^b).toNat:Int):=by rw[u8_xor_nat _ _ (G.lt a) (G.lt b),UInt8.toNat_xor]
theorem nJ(a:Nat)(w:World)(ha:a<256):
 Calls prog 369 #[.int .u8 a] w λe w'=>e=.returned (.int .u8 (Gf.Ef a:Nat))/\w=w':=by
 by_cases h:128<=a
 ·go_enter func369,ntmps369;go_wp2_with fail;go_ret;refine⟨QZ ((Wu (2*a-256) 29 (by omega) rfl (by omega) (by omega)).trans ?_),rfl⟩;rw[Gf.Ef,zj h]
 ·go_enter func369,ntmps369;go_wp2_with fail;go_ret;refine⟨QZ ?_,rfl⟩;rw[Gf.Ef,zi h];omega
theorem mul_any(a b:Nat)(w:World)(ha:a<256)(hb:b<256):
 Calls prog 324 #[.int .u8 a,.int .u8 b] w λe w'=>e=.returned (.int .u8 (Gf.mul a b:Nat))/\w=w':=by
 go_enter func324,ntmps324;go_wp2_with fail
 go_loop [0,1,5] (λva vb vo=>∃k x y o:Nat,k<=8/\x<256/\y<2 ^ k/\o<256/\va=.int .u8 x/\vb=.int .u8 y/\vo=.int .u8 o/\o^^^Gf.mulN k x y=Gf.mul a b) (λ_ vb _=>(RowKit.intOf vb).toNat)
 case atStart=>exact⟨8,a,b,0,by omega,ha,hb,by omega,rfl,rfl,rfl,by simp[Gf.mul]⟩
 case round=>
  obtain⟨k,x,y,o,hk,hx,hy,ho,rfl,rfl,rfl,hm⟩:=hrel;have hy8:y<256:=zL hy (XB (by omega) hk:2 ^ k<=2 ^ 8);have Hm:=zH hm;clear hm;have Hy:=zH hy;clear hy;by_cases h0:y=0
  ·subst h0;go_wp2_with fail;go_ret;refine⟨QZ ?_,rfl⟩;rw[<-Hm.out,Gf.sF,Nat.xor_zero]
  ·obtain⟨j,rfl⟩:∃j,k=j+1:=⟨k-1,by
    rcases k with _|k
    ·have:=Hy.out;simp at this;omega
    ·rfl⟩
   have Hj:Hid (y/2<2 ^ j):=zH (by have:=Hy.out;rw[Nat.pow_succ]at this;omega);have Ha:=zH (and_one y hy8);have hn:((y:Int) != 0)=true:=by rw[XV];omega
   by_cases h1:y%2=1
   ·have hb1:(bits .and .u8 (y:Int) 1 == 1)=true:=by rw[Ha.out,h1];rfl
    go_wp2_with (go_at_call 369;refine(nJ _ _ hx).mono ?_;rintro e w' ⟨rfl,rfl⟩);go_round;case rel=>
     refine⟨j,Gf.Ef x,y/2,o^^^x,by omega,Gf.qU hx,Hj.out,Gf.NV ho hx,rfl,by simp,?_,?_⟩
     ·rw[Wu o x rfl rfl ho hx]
     ·rw[<-Hm.out,Gf.mulN,zj h1,Nat.xor_assoc]
    case measure=>simp[RowKit.intOf];omega
   ·have hb1:(bits .and .u8 (y:Int) 1 == 1)=false:=by rw[Ha.out,Yc];omega
    go_wp2_with (go_at_call 369;refine(nJ _ _ hx).mono ?_;rintro e w' ⟨rfl,rfl⟩);go_round;case rel=>
     refine⟨j,Gf.Ef x,y/2,o,by omega,Gf.qU hx,Hj.out,ho,rfl,by simp,rfl,?_⟩;rw[<-Hm.out,Gf.mulN,zi h1,Nat.zero_xor]
    case measure=>simp[RowKit.intOf];omega
theorem aj9(x y:Int)(a b:Nat)(w:World)(hx:x=a)(hy:y=b)(ha:a<256)(hb:b<256):
 Calls prog 324 #[.int .u8 x,.int .u8 y] w λe w'=>e=.returned (.int .u8 (Gf.mul a b:Nat))/\w=w':=by
 subst hx hy;exact mul_any a b w ha hb
def ex(n:Int):Nat:=(n%255).toNat
theorem alz(n:Int):ex n<255:=by unfold ex;omega
theorem Vp(n:Int):-255<n.tmod 255/\n.tmod 255<255:=
 ⟨Int.lt_tmod_of_pos n (by omega),Int.tmod_lt_of_pos n (by omega)⟩
theorem tmod_neg(n:Int)(h:n.tmod 255<0):n.tmod 255+255=ex n:=by have h1:=Int.mul_tdiv_add_tmod n 255;have h2:=Vp n;unfold ex;omega
theorem ae3(n:Int)(h:0<=n.tmod 255):n.tmod 255=ex n:=by have h1:=Int.mul_tdiv_add_tmod n 255;have h2:=Vp n;unfold ex;omega
theorem aaq(n:Nat):∀a,Gf.iter (n+1) a=Gf.Ef (Gf.iter n a):=by
 induction n with
 |zero=>intro a;rfl
 |succ n ih=>intro a;exact ih (Gf.Ef a)
theorem Ez(n:Nat):Gf.exp (n+1)=Gf.Ef (Gf.exp n):=aaq n 1
theorem agk(n:Int)(w:World)(h1:-9223372036854775808<=n)(h2:n<=9223372036854775807):
 Calls prog 321 #[.int .i64 n] w λe w'=>e=.returned (.int .u8 (Gf.exp (ex n):Nat))/\w=w':=by
 obtain⟨hb1,hb2⟩:=Vp n;have He:=alz n;by_cases h:n.tmod 255<0
 ·obtain⟨m,hm⟩:∃m,m=n.tmod 255:=⟨_,rfl⟩;have Hn:Hid (n.tmod 255+255=ex n):=zH (tmod_neg n h);go_enter func321,ntmps321;go_wp2_with fail;rw[Hn.out]
  go_loop [3,11] (λva vi=>∃k:Nat,k<=ex n/\vi=.int .i64 k/\va=.int .u8 (Gf.exp k:Nat)) (λ_ vi=>ex n-(RowKit.intOf vi).toNat)
  case atStart=>exact⟨0,by omega,rfl,rfl⟩
  case round=>
   obtain⟨k,hk,rfl,rfl⟩:=hrel;have Hs:=zH (Ez k);by_cases hlt:k<ex n
   ·go_wp2_with (go_at_call 369;refine(nJ _ _ (Gf.Ag k)).mono ?_;rintro e w' ⟨rfl,rfl⟩);go_round;case rel=>exact⟨k+1,by omega,by go_num,by rw[Hs.out]⟩
    case measure=>simp[RowKit.intOf];omega
   ·go_wp2_with fail;go_ret;exact⟨QZ (by rw[show k=ex n by omega]),rfl⟩
 ·have h':0<=n.tmod 255:=by omega
  have Hn:Hid (n.tmod 255=ex n):=zH (ae3 n h');go_enter func321,ntmps321;go_wp2_with fail;rw[Hn.out]
  go_loop [3,11] (λva vi=>∃k:Nat,k<=ex n/\vi=.int .i64 k/\va=.int .u8 (Gf.exp k:Nat)) (λ_ vi=>ex n-(RowKit.intOf vi).toNat)
  case atStart=>exact⟨0,by omega,rfl,rfl⟩
  case round=>
   obtain⟨k,hk,rfl,rfl⟩:=hrel;have Hs:=zH (Ez k);by_cases hlt:k<ex n
   ·go_wp2_with (go_at_call 369;refine(nJ _ _ (Gf.Ag k)).mono ?_;rintro e w' ⟨rfl,rfl⟩);go_round;case rel=>exact⟨k+1,by omega,by go_num,by rw[Hs.out]⟩
    case measure=>simp[RowKit.intOf];omega
   ·go_wp2_with fail;go_ret;exact⟨QZ (by rw[show k=ex n by omega]),rfl⟩
def zN:Array Value:=Array.replicate 255 (.int .u8 0)
def pw:Nat->Array Value
 |0=>zN
 |k+1=>(pw k).setIfInBounds k (.int .u8 (Gf.exp k:Nat))
theorem Du(k:Nat):(pw k).size=255:=by
 induction k with
 |zero=>simp[pw,zN]
 |succ k ih=>simp[pw,ih]
theorem akf(k:Nat):∀i,i<k->k<=255->(pw k)[i]? = some (.int .u8 (Gf.exp i:Nat)):=by
 induction k with
 |zero=>intro i h;omega
 | succ k ih=>
   intro i h hk;simp only[pw];by_cases e:i=k
   ·subst e;rw[Array.getElem?_setIfInBounds_self_of_lt (by rw[Du];omega)]
   ·rw[Vj (by omega)];exact ih i (by omega) (by omega)
theorem ahr(k i:Nat)(h:i<255):∃v,(pw k)[i]? = some v:=by
 have:i<(pw k).size:=by rw[Du];exact h
 exact⟨_,XK this⟩
theorem akh(k:Nat):∀v∈(pw k),v.oneCell'=true:=by
 induction k with
 |zero=>intro v hv;simp[pw,zN]at hv;subst hv;rfl
 | succ k ih=>
   intro v hv;rcases Array.mem_or_eq_of_mem_setIfInBounds hv with h|h
   ·exact ih v h
   ·subst h;rfl
theorem afm:∀w,(zeroValue 436).run prog w=.ok (.agg zN) w:=λ_=>by kernel_rfl
theorem UQ(w:World):
 Calls prog 399 #[] w λe w'=>e=.returned (.agg (pw 255))/\Below w.heap.size w w':=by
 have hz:=afm;go_enter func399,ntmps399;go_wp2_with fail;have h0:((w.alloc (.cells zN 436)).alloc (.cells zN 436)).heap[w.heap.size]? = some (.cells (pw 0) 436):=heap_alloc2_old _ _ _;have h1:((w.alloc (.cells zN 436)).alloc (.cells zN 436)).heap[w.heap.size+1]? = some (.cells (pw 0) 436):=heap_alloc2_new _ _ _;have h2:Below w.heap.size w ((w.alloc (.cells zN 436)).alloc (.cells zN 436)):=((zB _ _).alloc (zl _) _).alloc (by simp) _;generalize (w.alloc (.cells zN 436)).alloc (.cells zN 436)=w1 at h0 h1 h2 ⊢;clear hz
 go_loopw [2,3,4] (λva vi vk wr=>∃k:Nat,k<=255/\va=.int .u8 (Gf.exp k:Nat)/\vk=.int .i64 k/\wr.heap[w.heap.size]? = some (.cells zN 436)/\wr.heap[w.heap.size+1]? = some (.cells (pw k) 436)/\Below w.heap.size w wr) (λ_ _ vk _=>255-(RowKit.intOf vk).toNat)
 case atStart=>exact⟨0,by omega,rfl,rfl,h0,h1,h2⟩
 case round=>
  obtain⟨k,hk,rfl,rfl,g0,g1,g2⟩:=hrel;clear h0 h1 h2;have Hs:=zH (Ez k);by_cases hlt:k<255
  ·obtain⟨v,hv⟩:=ahr k k hlt;have hc:wr.cell? ⟨w.heap.size+1,k,none⟩=some v:=by rw[Xd wr _ k _ _ _ g1];exact hv
   have hf:=frozen_of_row wr _ k _ _ g1;clear hv;have G0:=zH g0;have G1:=zH g1;clear g0 g1;go_wp2_with (go_at_call 369;refine(nJ _ _ (Gf.Ag k)).mono ?_;rintro e w' ⟨rfl,rfl⟩);go_roundw;case rel=>
    refine⟨k+1,by omega,by rw[Hs.out],by go_num,?_,?_,g2.setCell (by simp) _⟩
    ·rw[heap_setCell_other _ _ _ _ (by simp)];exact G0.out
    ·exact heap_setCell_same _ _ _ _ _ _ G1.out
   case measure=>simp[RowKit.intOf];omega
  ·obtain rfl:k=255:=by omega
   have G0:=zH g0;have G1:=zH g1;clear g0 g1;have hi:(prog.info? 436).map (·.size)=some (pw 255).size:=by rw[Du];kernel_rfl
   have h1:(pw 255).all (·.oneCell')=true:=Xb.2 (akh 255);go_wp2_with (first|(refine wpList_load_row rfl 436 _ rfl _ rfl 436 _ _ _ G1.out underlying436 rfl hi ?_)|(refine XZ rfl 436 _ _ rfl w.heap.size (pw 255) rfl rfl 436 _ G0.out hi (by simp[zN,Du]) h1 ?_));exact zr (v:=.agg (pw 255)) (results_cell_row rfl _ _ w.heap.size 436 (pw 255) (0,0) _ rfl (XP _ _ _ _ _ _ G0.out) underlying436 rfl hi) rfl ⟨rfl,Below.setRow g2 (zl _) _⟩
def adK(a:Nat):Value:=.tuple #[.int .i64 ((if a=0 then 0 else Gf.log a:Nat):Int),.int .i64 (if a=0 then 1 else 0)]
theorem log_any(a:Nat)(w:World)(ha:a<256):
 Calls prog 370 #[.int .u8 a] w λe w'=>e=.returned (adK a)/\Below w.heap.size w w':=by
 go_enter func370,ntmps370;go_wp2_with fail;refine(UQ _).mono ?_;rintro e w1 ⟨rfl,hb⟩;generalize hP:pw 255=amG;have HP:=zH hP;clear hP;go_wp2_with fail
 go_loop [4,5,7] (λ_ _ vk=>∃k:Nat,k<=255/\vk=.int .i64 k/\Hid (∀i,i<k->Gf.exp i≠a)) (λ_ _ vk=>255-(RowKit.intOf vk).toNat)
 case atStart=>exact⟨0,by omega,rfl,zH (λi h=>by omega)⟩
 case round=>
  obtain⟨k,hk,rfl,hno⟩:=hrel;by_cases hlt:k<255
  ·have hg:Sem.run prog (Instr.index 436 (.agg amG) (.int .i64 k)) w1=.ok (.int .u8 (Gf.exp k:Nat)) w1:=
    IJ w1 underlying436 underlying5 rfl (by kernel_rfl) amG k hlt _ (by rw[<-HP.out];exact akf 255 k hlt (by omega))
   have Hl:=zH (Gf.uU hlt);have Hz:=zH (Gf.oO k);by_cases he:Gf.exp k=a
   ·have ht:(((Gf.exp k:Nat):Int) == (a:Int))=true:=by rw[he];simp
    have He:=zH he;clear he;go_wp2_with fail;go_ret2;refine⟨?_,hb⟩;rw[<-He.out];simp[adK,Hz.out,Hl.out]
   ·have ht:(((Gf.exp k:Nat):Int) == (a:Int))=false:=by rw[Yc];omega
    have He:=zH he;clear he;go_wp2_with fail;go_round;case rel=>
     refine⟨k+1,by omega,by go_num,zH λi hi=>?_⟩;by_cases e:i=k
     ·rw[e];exact He.out
     ·exact hno.out i (by omega)
    case measure=>simp[RowKit.intOf];omega
  ·obtain rfl:k=255:=by omega
   have h0:a=0:=by
    by_cases h0:a=0
    ·exact h0
    ·obtain⟨h1,h2⟩:=Gf.kZ ha h0;exact(hno.out _ h1 h2).elim
   have H0:=zH h0;clear h0;go_wp2_with fail;go_ret2;refine⟨?_,hb⟩;rw[H0.out];rfl
def invV(a:Nat):Value:=.tuple #[.int .u8 (Gf.inv a:Nat),.int .i64 (if a=0 then 1 else 0)]
theorem aas:adK 0=.tuple #[.int .i64 0,.int .i64 1]:=rfl
theorem agX{a:Nat}(h:a≠0):adK a=.tuple #[.int .i64 (Gf.log a:Nat),.int .i64 0]:=by simp[adK,h]
theorem Wv{a:Nat}(h:a≠0):invV a=.tuple #[.int .u8 (Gf.inv a:Nat),.int .i64 0]:=by simp[invV,h]
theorem TM(x n:Int)(w:World)(hx:x=n)(h1:-9223372036854775808<=n)(h2:n<=9223372036854775807):
 Calls prog 321 #[.int .i64 x] w λe w'=>e=.returned (.int .u8 (Gf.exp (ex n):Nat))/\w=w':=by
 subst hx;exact agk x w h1 h2
theorem Wx(a:Nat)(w:World)(ha:a<256):
 Calls prog 323 #[.int .u8 a] w λe w'=>e=.returned (invV a)/\Below w.heap.size w w':=by
 by_cases h0:a=0
 ·subst h0;go_enter func323,ntmps323;go_wp2_with (go_at_call 370;refine(log_any 0 _ (by omega)).mono ?_;rintro e w1 ⟨rfl,hb⟩;rw[aas]);go_ret2;exact⟨rfl,hb⟩
 ·obtain⟨h1,h2⟩:=Gf.kZ ha h0;have H2:=zH h2;clear h2;have H0:=zH h0;clear h0;go_enter func323,ntmps323;go_wp2_with fail;refine(log_any a _ ha).mono ?_;rintro e w1 ⟨rfl,hb⟩;rw[agX H0.out];go_wp2_with fail;refine(TM _ (-(Gf.log a:Nat)) _ rfl (by omega) (by omega)).mono ?_;rintro e w2 ⟨rfl,rfl⟩;go_wp2_with fail;go_ret2;refine⟨?_,hb⟩;rw[Wv H0.out,Gf.inv,zi H0.out];have e:ex (-(Gf.log a:Nat))=(255-Gf.log a)%255:=by unfold ex;omega
  rw[e];rfl
theorem infoU8:(prog.info? 5).map (λi=>(i.zero,i.size,i.bytes))=some (some (.int .u8 0),1,1):=by kernel_rfl
theorem iZ(x y:Int)(a b:UInt8)(w:World)(hx:x=a.toNat)(hy:y=b.toNat):
 Calls prog 324 #[.int .u8 x,.int .u8 y] w λe w'=>e=.returned (B (G.mul a b))/\w=w':=
 (aj9 x y a.toNat b.toNat w hx hy (G.lt a) (G.lt b)).mono λe w' ⟨h1,h2⟩=>⟨by rw[h1,<-G.toNat_mul],h2⟩
theorem BJ(vp vq:Value)(p q:List UInt8)(w:World)(hp:Rd w vp p)(hq:Rd w vq q):
 Calls prog 320 #[vp,vq] w λe w'=>∃v,e=.returned v/\w'.ownsRow w.heap.size 5 1 v (G.prod p q).length (bs (G.prod p q))/\Below w.heap.size w w':=by
 obtain⟨i0,hi,hz0,hz1,hz2⟩:=info_parts infoU8;obtain⟨hpl,⟨a,cap,rfl,rfl⟩|⟨bp,op,cp,rfl,hp0,hpc⟩⟩:=hp.cases
 ·obtain⟨aq,cq,rfl⟩:∃a c,vq=.slice a q.length c:=hq.form;go_enter func320,ntmps320;go_wp2_with fail;go_ret;rw[G.pI];exact⟨_,rfl,World.ownsRow_nil _ _ _ _,zB _ _⟩
 obtain⟨hql,⟨a,cap,rfl,rfl⟩|⟨bq,oq,cq,rfl,hq0,hqc⟩⟩:=hq.cases
 ·have hlp:0<p.length:=YM.2 hp0;have hp1:((p.length:Int) == 0)=false:=by rw[Yc];omega
  clear hpc;go_enter func320,ntmps320;go_wp2_with fail;go_ret;rw[G.nY];exact⟨_,rfl,World.ownsRow_nil _ _ _ _,zB _ _⟩
 have hlp:0<p.length:=YM.2 hp0;have hlq:0<q.length:=YM.2 hq0;have hp1:((p.length:Int) == 0)=false:=by rw[Yc];omega
 have hq1:((q.length:Int) == 0)=false:=by rw[Yc];omega
 have HP:=zH hpc;clear hpc;have HQ:=zH hqc;clear hqc;obtain⟨n,hn⟩:∃n:Nat,n=p.length+q.length-1:=⟨_,rfl⟩;have hnb:n<=281474976702464:=by omega
 have hn1:n+1<=p.length+q.length:=by omega
 have hn2:p.length+q.length<=n+1:=by omega
 have Hn:Hid ((p.length:Int)+(q.length:Int)-1=n):=zH (by omega);have Hm:=zH hn;clear hn;have hbp:bp<w.heap.size:=zc w _ (HP.out 0 hlp);have hbq:bq<w.heap.size:=zc w _ (HQ.out 0 hlq);go_enter func320,ntmps320;go_wp2_with (refine wpList_make_full _ rfl _ _ 65 rfl w.heap.size 5 i0 _ 1 underlying65 hi hz0 hz1 .i64 .i64 _ _ n rfl rfl Hn.out Hn.out (by rw[hz2];omega) (by unfold maxLen;omega) (zl _) ?_;intro w1 hown1 PQ);have hb1:Below w.heap.size w w1:=(zB _ _).grown PQ (zl _) (by simp);have adk:w1.ownsRow w.heap.size 5 1 (.slice (some ⟨w.heap.size,0,none⟩) n n) n (bs (G.aZ p q 0)):=by
  have e:(madeCells (Value.int .u8 0).cells (n*1)).toList=bs (G.aZ p q 0):=by simp only[Value.cells,toList_madeCells_one,G.aZ,qQ,<-Hm.out,Yy];rfl
  rw[<-e];exact hown1
 clear hown1 PQ
 go_loopw [27] (λvk wr=>∃k:Nat,k<=p.length/\vk=.int .i64 k/\wr.ownsRow w.heap.size 5 1 (.slice (some ⟨w.heap.size,0,none⟩) n n) n (bs (G.aZ p q k))/\Below w.heap.size w wr) (λvk _=>p.length-(RowKit.intOf vk).toNat)
 case atStart=>exact⟨0,by omega,rfl,adk,hb1⟩
 case round=>
  clear adk hb1;obtain⟨k,hk,rfl,hown,hb⟩:=hrel;obtain⟨wo,rfl⟩:∃wo:World,wo=wr:=⟨_,rfl⟩;by_cases hlt:k<p.length
  ·have hcp:wo.cell? ⟨bp,op+k,none⟩=some (B (G.ix p k)):=by rw[hb.cell hbp];exact HP.out k hlt
   go_wp2_with fail
   go_loopw [34] (λvj wr=>∃j:Nat,j<=q.length/\vj=.int .i64 j/\wr.ownsRow w.heap.size 5 1 (.slice (some ⟨w.heap.size,0,none⟩) n n) n (bs (G.addRow k (G.ix p k) q j (G.aZ p q k)))/\Below w.heap.size w wr) (λvj _=>q.length-(RowKit.intOf vj).toNat)
   case atStart=>exact⟨0,by omega,rfl,hown,hb⟩
   case round=>
    clear hown hb hcp;obtain⟨j,hj,rfl,hown,hb⟩:=hrel;by_cases hlj:j<q.length
    ·have hcq:wr.cell? ⟨bq,oq+j,none⟩=some (B (G.ix q j)):=by rw[hb.cell hbq];exact HQ.out j hlj
     have hcl:(G.addRow k (G.ix p k) q j (G.aZ p q k)).length=n:=by rw[G.bI,G.aY,Hm.out]
     have hco:wr.cell? ⟨w.heap.size,k+j,none⟩=some (B (G.ix (G.addRow k (G.ix p k) q j (G.aZ p q k)) (k+j))):=by rw[hown.cellAt _ (by omega),jh (by omega)]
     have hfo:=hown.frozenAt (k+j);have Hcl:=zH hcl;clear hcl;go_wp2_with fail;have e1:IntKind.i64.wrap ((k:Int)+(j:Int))=(k:Int)+(j:Int):=IntWalk.i64_in _ (by omega);have e2:(0:Int)<=(k:Int)+(j:Int):=by omega
     have e3:(k:Int)+(j:Int)<(n:Int):=by omega
     have e4:((k:Int)+(j:Int)).toNat=k+j:=by omega
     go_still_tail 11,(by kernel_rfl)
     still_call (Jn (iZ _ _ (G.ix p k) (G.ix q j) _ rfl rfl))
     repeat still_step
     refine wpStill_nil ?_;clear e1 e2 e3 e4;change wpList _ _ _ _ _ wr.drew;go_wp2_with fail;go_roundw;case rel=>
      refine⟨j+1,by omega,by go_num,?_,(hb.drew).setCell (zl _) _⟩;have h:=hown.drew.stored (k+j) (B (G.ix (G.addRow k (G.ix p k) q j (G.aZ p q k)) (k+j)^^^G.mul (G.ix p k) (G.ix q j)));rw[Ac]at h;rw[GH];exact h.1
     case measure=>simp[RowKit.intOf];omega
    ·go_wp2_with fail;go_roundw;case rel=>
      refine⟨k+1,by omega,by go_num,?_,hb⟩;obtain rfl:j=q.length:=by omega
      exact hown
     case measure=>simp[RowKit.intOf];omega
  ·go_wp2_with fail;go_ret;refine⟨_,rfl,?_,hb⟩;obtain rfl:k=p.length:=by omega
   have e:(G.prod p q).length=n:=by rw[G.gJ p q hp0 hq0,Hm.out]
   rw[e,G.Dt hp0 hq0];exact hown
theorem sizeU8:(prog.info? 5).map (·.size)=some 1:=by kernel_rfl
theorem Lr(s c x:UInt8)(b:Nat)(w:World)(hc:w.cell? ⟨b,0,none⟩=some (B x)):
 Calls prog 398 #[B s,B c,.pointer (some ⟨b,0,none⟩)] w λe w'=>e=.returned (B (G.mul s x^^^c))/\w=w':=by
 go_enter func398,ntmps398;go_wp2_with (go_at_call 324;refine(iZ _ _ s x _ rfl rfl).mono ?_;rintro e w' ⟨rfl,rfl⟩);go_ret;exact⟨QZ (GH _ _),rfl⟩
theorem Ew(x:UInt8)(p:List UInt8)(c:UInt8):∀s,G.lY x s (p++[c])=G.mul (G.lY x s p) x^^^c:=by
 induction p with
 |nil=>intro s;rfl
 |cons d p ih=>intro s;exact ih _
theorem jc(l:List UInt8)(k:Nat)(h:k<l.length):l.take (k+1)=l.take k++[G.ix l k]:=by rw[Yo h];simp[G.ix,h]
theorem TK(x s:UInt8)(l:List UInt8)(k:Nat)(h:k<l.length):G.lY x s (l.take (k+1))=G.mul (G.lY x s (l.take k)) x^^^G.ix l k:=by rw[jc l k h,Ew]
theorem acX(vp:Value)(p:List UInt8)(s x:UInt8)(b:Nat)(w:World)(hp:Rd w vp p)(hc:w.cell? ⟨b,0,none⟩=some (B x)):
 Calls prog 397 #[vp,B s,.func (.func 398) #[] #[.pointer (some ⟨b,0,none⟩)]] w λe w'=>e=.returned (B (G.lY x s p))/\w=w':=by
 obtain⟨h0,a,cap,bp,op,rfl,hcap,hcell⟩:=hp;have HC:=zH hcell;clear hcell;go_enter func397,ntmps397;go_wp2_with fail
 go_loop [1,11] (λvs vk=>∃k:Nat,k<=p.length/\vk=.int .i64 k/\vs=B (G.lY x s (p.take k))) (λ_ vk=>p.length-(RowKit.intOf vk).toNat)
 case atStart=>exact⟨0,by omega,rfl,rfl⟩
 case round=>
  obtain⟨k,hk,rfl,rfl⟩:=hrel;by_cases hlt:k<p.length
  ·obtain⟨ha,hcp⟩:=HC.out k hlt;have hix:=bJ (P:=prog) underlying65 sizeU8 (cap:=cap) ha hlt _ rfl w;have Ha:=zH ha;clear ha;have Hs:=zH (TK x s p k hlt);go_wp2_with (go_at_call 398;refine(Lr _ _ x b _ hc).mono ?_;rintro e w' ⟨rfl,rfl⟩);go_round;case rel=>exact⟨k+1,by omega,by go_num,by rw[Hs.out]⟩
   case measure=>simp[RowKit.intOf];omega
  ·go_wp2_with fail;go_ret;exact⟨by rw[YE (by omega)];rfl,rfl⟩
theorem fold_at(vp:Value)(y:Int)(p:List UInt8)(s x:UInt8)(b:Nat)(w:World)(hp:Rd w vp p)(hc:w.cell? ⟨b,0,none⟩=some (B x))(hy:y=s.toNat):
 Calls prog 397 #[vp,.int .u8 y,.func (.func 398) #[] #[.pointer (some ⟨b,0,none⟩)]] w λe w'=>e=.returned (B (G.lY x s p))/\w=w':=by
 subst hy;exact acX vp p s x b w hp hc
theorem eval_any(vp:Value)(p:List UInt8)(x:UInt8)(w:World)(hp:Rd w vp p):
 Calls prog 367 #[vp,B x] w λe w'=>e=.returned (B (G.eval p x))/\Below w.heap.size w w':=by
 go_enter func367,ntmps367;go_wp2_with fail;refine(fold_at _ _ p 0 x w.heap.size _ (hp.keep ((zB _ _).alloc (zl _) _)) (by simp[World.cell?_alloc_at]) rfl).mono ?_;rintro e w1 ⟨rfl,rfl⟩;go_wp2_with fail;go_ret;exact⟨rfl,(zB _ _).alloc (zl _) _⟩
def oD(l:List UInt8):List UInt8:=l.dropWhile (· == 0)
theorem abB(l:List UInt8)(k:Nat)(h:k<l.length)(h0:G.ix l k=0):oD (l.drop k)=oD (l.drop (k+1)):=by
 have e:l.drop k=G.ix l k::l.drop (k+1):=by rw[List.drop_eq_getElem_cons h];simp[G.ix,h]
 rw[e,h0];simp[oD]
theorem NK(l:List UInt8)(k:Nat)(h:k<l.length)(h0:G.ix l k≠0):oD (l.drop k)=l.drop k:=by
 have e:l.drop k=G.ix l k::l.drop (k+1):=by rw[List.drop_eq_getElem_cons h];simp[G.ix,h]
 rw[e];simp[oD,h0]
theorem ae5(vp:Value)(p:List UInt8)(w:World)(hp:Rd w vp p):
 Calls prog 322 #[vp] w λe w'=>∃v,e=.returned v/\Rd w v (oD p)/\w=w':=by
 go_enter func322,ntmps322;go_wp2_with fail
 go_loop [0] (λvs=>∃l:List UInt8,Rd w vs l/\oD l=oD p) (λvs=>slen vs)
 case atStart=>exact⟨p,hp,rfl⟩
 case round=>
  obtain⟨l,hl,ht⟩:=hrel;have Ht:=zH ht;clear ht;have hl':=hl;obtain⟨h0,a,cap,bp,op,rfl,hcap,hcell⟩:=hl;have HC:=zH hcell;clear hcell;by_cases hlt:0<l.length
  ·obtain⟨ha,hcp⟩:=HC.out 0 hlt;have hix:=bJ (P:=prog) underlying65 sizeU8 (cap:=cap) ha hlt 0 rfl w;have Ha:=zH ha;clear ha;simp only[YO]at hcp hix;obtain⟨v',hv',_,hcut,_⟩:=Y2 (P:=prog) underlying65 sizeU8 hl' 1 l.length hlt (zl _);have hcut:=hcut rfl 1 w rfl;rw[YD]at hv';by_cases hz:G.ix l 0=0
   ·have hz1:(((G.ix l 0).toNat:Int) == 0)=true:=by rw[hz];rfl
    have Hz:=zH hz;clear hz;have Hv:=zH hv';clear hv';go_wp2_with fail;go_round;case rel=>
     have e:=abB l 0 hlt Hz.out;rw[List.drop_zero]at e;exact⟨_,Hv.out,by rw[<-Ht.out,e]⟩
    case measure=>
     obtain⟨a',c',e'⟩:=Hv.out.form;rw[e'];simp[slen];omega
   ·have hz1:(((G.ix l 0).toNat:Int) == 0)=false:=by rw[Yc];intro e;exact hz (G.ext (by simpa using e))
    have Hz:=zH hz;clear hz;go_wp2_with fail;go_ret;refine⟨_,rfl,?_,rfl⟩;have e:=NK l 0 hlt Hz.out;rw[List.drop_zero]at e;rw[<-Ht.out,e];exact hl'
  ·go_wp2_with fail;go_ret;refine⟨_,rfl,?_,rfl⟩;obtain rfl:l = []:=Xu (by omega);rw[<-Ht.out];exact hl'
end
end Go.Proofs.YtfnehkmhcmkhjaaGreat
