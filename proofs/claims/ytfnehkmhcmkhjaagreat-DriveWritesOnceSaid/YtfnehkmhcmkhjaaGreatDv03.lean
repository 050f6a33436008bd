/- Parts:XLib -/
import Derived.Test.YtfnehkmhcmkhjaaGreatDvAl
import Derived.WalkKit
import Derived.Test.YtfnehkmhcmkhjaaGreatDv00
import Derived.Lib.Hide
import Derived.Deep.QuietTactic
import Derived.BigQuiet
import Derived.StillTailTactics
set_option maxRecDepth 100000
set_option maxHeartbeats 8000000
set_option linter.unusedVariables false
namespace Go.Proofs.YtfnehkmhcmkhjaaGreat
section
open Go.RowKit
theorem UI{k:IntKind}{a b:Int}(h:a=b):Ending.returned (.int k a)=.returned (.int k b):=by rw[h]
theorem fQ{a b:Bool}(h:a=b):Ending.returned (.bool a)=.returned (.bool b):=by rw[h]
theorem Below.setRow{B:Nat}{a w:World}(h:Below B a w){g:Nat}(hp:B<=g)(cs:Array Value):Below B a (w.setRow g cs):=
 h.trans ⟨rfl,rfl,rfl,by simp,fun k hk=>setRow_other _ _ _ _ (by omega)⟩
theorem Below.drewN{B:Nat}{a w:World}(h:Below B a w)(n:Nat):Below B a (w.drewN n):=h.trans ⟨rfl,rfl,rfl,zl _,fun _ _=>rfl⟩
theorem MK{x y:Int}(a b:Nat)(hx:x=a)(hy:y=b)(ha:a<256)(hb:b<256):bits .xor .u8 x y=((a ^^^ b:Nat):Int):=by subst hx hy; exact u8_xor_nat a b ha hb
theorem and_one(b:Nat)(h:b<256):bits .and .u8 (b:Int) 1=((b % 2:Nat):Int):=by have:=u8_and_nat b 1 h (by omega);rw[Nat.and_one_is_mod]at this;exact this
theorem AQ{P:Program}(w:World){t e:TypeId}{n:Nat}{d:TypeDesc}(ht:P.underlying t=some (.array n e))(he:P.underlying e=some d)(hd:(match d with | .struct _ | .array _ _=>true | _=>false)=false)
 (hs:(P.info? e).map (·.size)=some 1)(cs:Array Value)(i:Nat)(hi:i<n)(v:Value)(hv:cs[i]? = some v):
 (Instr.index t (.agg cs) (.int .i64 (i:Int))).run P w=.ok v w:=by
 cases hq:P.info? e with
 | none=>simp[hq]at hs
 | some inf=>
   have h1:inf.size=1:=by simpa[hq]using hs
   have hagg:(isAgg e).run P w=.ok false w:=by unfold isAgg;rw[Sem.run_bind,run_underlying he w];cases d <;> simp_all
   simp[Instr.index,asIntOf,run_underlying ht,sizeOf,typeInfo,hq,h1,hi,part,hagg,hv,Sem.run_bind]
abbrev B(c:UInt8):Value:=.int .u8 (c.toNat:Int)
def bs(l:List UInt8):List Value:=l.map B
theorem dN(l:List UInt8):(bs l).length=l.length:=by simp[bs]
theorem jK{l:List UInt8}{i:Nat}(h:i<l.length):(bs l)[i]? = some (B (G.ix l i)):=by simp[bs,G.ix,h]
theorem yx(l:List UInt8)(i:Nat)(c:UInt8):(bs l).set i (B c)=bs (l.set i c):=by simp[bs]
theorem uX(l m:List UInt8):bs (l++m)=bs l++bs m:=by simp[bs]
theorem nH(n:Nat)(c:UInt8):bs (List.replicate n c)=List.replicate n (B c):=by simp[bs]
theorem RG(l:List UInt8):∀u ∈ bs l,u.oneCell'=true:=by intro u hu;simp only[bs,List.mem_map]at hu;obtain⟨c,_,rfl⟩:=hu;rfl
def Rd(w:World)(v:Value)(l:List UInt8):Prop:=
 l.length<=140737488351232/\∃a cap b off,v=.slice a l.length cap/\l.length<=cap/\∀i,i<l.length->a=some ⟨b,off,none⟩/\w.cell? ⟨b,off+i,none⟩=some (B (G.ix l i))
theorem Rd.form{w:World}{v:Value}{l:List UInt8}(h:Rd w v l):∃a c,v=.slice a l.length c:=by obtain⟨_,a,c,_,_,rfl,_⟩:=h;exact⟨a,c,rfl⟩
theorem Rd.cases{w:World}{v:Value}{l:List UInt8}(h:Rd w v l):l.length<=140737488351232/\((∃a cap,v=.slice a 0 cap/\l = [])\/
 ∃b off cap,v=.slice (some ⟨b,off,none⟩) l.length cap/\l≠[]/\∀i,i<l.length->w.cell? ⟨b,off+i,none⟩=some (B (G.ix l i))):=by
 obtain⟨h0,a,c,b,off,rfl,hc,h⟩:=h;refine⟨h0,?_⟩;by_cases hl:l = []
 ·subst hl; exact .inl ⟨_,_,rfl,rfl⟩
 ·obtain⟨rfl,_⟩:=h 0 (List.length_pos_iff.2 hl);exact .inr ⟨_,_,_,rfl,hl,fun i hi=>(h i hi).2⟩
theorem Rd.keepW{w w':World}{v:Value}{l:List UInt8}(h:Rd w v l)(hb:∀k,k<w.heap.size->w'.heap[k]? = w.heap[k]?):Rd w' v l:=by obtain⟨h0,a,c,b,off,rfl,hc,h⟩:=h;refine⟨h0,a,c,b,off,rfl,hc,fun i hi=>⟨(h i hi).1,?_⟩⟩;have e:=(h i hi).2;rw[<-e];exact World.cell?_of_block (hb b (zc w _ e))
theorem Rd.keep{w w':World}{v:Value}{l:List UInt8}(h:Rd w v l)(hb:Below w.heap.size w w'):Rd w' v l:=h.keepW hb.block
theorem Rd.nil(w:World):Rd w (.slice none 0 0) []:=⟨by simp,none,0,0,0,rfl,by simp,fun i hi=>by simp at hi⟩
theorem Rd.bM{w:World}{base e:Nat}{v:Value}{l:List UInt8}(h:w.ownsRow base e 1 v l.length (bs l))(hl:l.length<=140737488351232):Rd w v l:=by
 refine⟨hl,?_⟩;rcases h.2 with ⟨rfl,h0⟩ | ⟨g,cap,cur,rfl,hg,hh,hn,hm,hcs,ht⟩
 ·rw[h0]; exact⟨none,0,0,0,rfl,by omega,fun i hi=>by omega⟩
 ·refine⟨_,cap,g,0,rfl,hn,fun i hi=>⟨rfl,?_⟩⟩;rw[Nat.zero_add,h.cellAt i (by omega),jK hi]
theorem XB(l:List UInt8)(k i:Nat):G.ix (l.drop k) i=G.ix l (k+i):=by simp[G.ix,List.getElem?_drop]
theorem DN{l:List UInt8}{k i:Nat}(h:i<k):G.ix (l.take k) i=G.ix l i:=by simp[G.ix,h]
section
variable {P:Program} {t e:TypeId}
theorem ku(ht:P.underlying t=some (.slice e))(hs:(P.info? e).map (·.size)=some 1){a:Option Addr}{n cap b off k:Nat}(ha:a=some ⟨b,off,none⟩)(hk:k<n)(i:Int)(hi:i=k)(w:World):
 (Instr.indexAt t (.slice a n cap) (.int .i64 i)).run P w=.ok (.pointer (some ⟨b,off+k,none⟩)) w:=by
 subst ha hi;cases hq:P.info? e with
 | none=>simp[hq]at hs
 | some i=>
   have h1:i.size=1:=by simpa[hq]using hs
   simp[Instr.indexAt,run_underlying ht,asIntOf,sizeOf,typeInfo,hq,h1,hk,Addr.add]
theorem Nz(ht:P.underlying t=some (.slice e))(hs:(P.info? e).map (·.size)=some 1){v:Value}{l:List UInt8}{w:World}(h:Rd w v l)(lo hi:Nat)(h1:lo<=hi)(h2:hi<=l.length):
 ∃v',Rd w v' ((l.take hi).drop lo)/\(∀(x y:Int)(w':World),x=lo->y=hi->(Instr.slice t v (some (.int .i64 x)) (some (.int .i64 y)) none).run P w'=.ok v' w')/\
   (hi=l.length->∀(x:Int)(w':World),x=lo->(Instr.slice t v (some (.int .i64 x)) none none).run P w'=.ok v' w')/\
   (lo=0->∀(y:Int)(w':World),y=hi->(Instr.slice t v none (some (.int .i64 y)) none).run P w'=.ok v' w'):=by
 obtain⟨h0,a,c,b,off,rfl,hc,hcell⟩:=h;cases hq:P.info? e with
 | none=>simp[hq]at hs
 | some i=>
   have hs1:i.size=1:=by simpa[hq]using hs
   have hL:((l.take hi).drop lo).length=hi - lo:=by rw[List.length_drop,List.length_take]; omega
   refine⟨.slice (if c=lo then a else a.map (·.add (lo * 1))) (hi - lo) (c - lo),⟨by rw[hL]; omega,?_⟩,?_,?_,?_⟩
   ·refine⟨_,_,b,off+lo,by rw[hL],by rw[hL]; omega,fun j hj=>?_⟩;have hj':j<hi - lo:=by rw[hL]at hj; exact hj
    obtain⟨e1,e2⟩:=hcell (lo+j) (by omega);refine⟨by rw[zi (by omega),e1]; simp[Addr.add],?_⟩;rw[XB,DN (by omega),Nat.add_assoc];exact e2
   ·rintro x y w' rfl rfl;simp[Instr.slice,run_underlying ht,Instr.sliceBounds,run_sliceBound,sizeOf,typeInfo,hq,hs1,(by omega:hi<=c),(by omega:(lo:Int)<=hi)]
   ·rintro rfl x w' rfl;simp[Instr.slice,run_underlying ht,Instr.sliceBounds,run_sliceBound,sizeOf,typeInfo,hq,hs1,h1]
   ·rintro rfl y w' rfl;simp[Instr.slice,run_underlying ht,Instr.sliceBounds,run_sliceBound,sizeOf,typeInfo,hq,(by omega:hi<=c)]
end
def Reads(w:World)(size:Nat)(v:Value)(n:Nat)(xs:List Value):Prop:=
 xs.length=n * size/\∃a cap b off,v=.slice a n cap/\n<=cap/\∀i u,xs[i]? = some u->a=some ⟨b,off,none⟩/\w.cell? ⟨b,off+i,none⟩=some u
theorem Rd.reads{w:World}{v:Value}{l:List UInt8}(h:Rd w v l):Reads w 1 v l.length (bs l):=by
 obtain⟨h0,a,c,b,off,rfl,hc,hcell⟩:=h;refine⟨by simp[dN],a,c,b,off,rfl,hc,fun i u hu=>?_⟩;have hi:i<l.length:=by have:=(List.getElem?_eq_some_iff.1 hu).1;rwa[dN]at this
 rw[jK hi]at hu;obtain rfl:=zs hu;exact hcell i hi
section
variable {P:Program}
theorem Ny{t ty e:TypeId}{i:TypeInfo}{z:Value}{size bytes base:Nat}(ht:P.underlying t=some (.slice e))(hi:P.info? e=some i)(hz:i.zero=some z)(hsize:i.size=size)(hby:i.bytes=bytes)(hzs:z.cells.size=size)(hsz:0<size)
 {w:World}{v:Value}{n:Nat}{xs:List Value}(hown:w.ownsRow base e size v n xs){s:Value}{m:Nat}{news:List Value}(hs:Reads w size s m news)(h1:∀u ∈ news,u.oneCell'=true)
 (h63:n+m<=maxLen)(hbytes:(n+m) * bytes<=140737488355328)(hbase:base<=w.heap.size):
 ∃v' w',(Builtin.append_ #[t,t] ty #[v,s]).run P w=.ok v' w'/\w'.ownsRow base e size v' (n+m) (xs++news)/\w.grownBy w' v.ownBlock/\(v'=.slice none 0 0↔v=.slice none 0 0/\m=0):=by
 obtain⟨hl,a,c,b,off,rfl,hc,hcell⟩:=hs;cases a with
 | some ad=>
   by_cases hm:news = []
   ·subst hm;have h0:m * size=0:=by simpa using hl.symm
    obtain⟨v',w',r1,r2,r3,r4⟩:=run_append_own (P:=P) w base t ty e i z size bytes ht hi hz hsize hby hzs hsz v n xs hown ad m c [] hl (fun j u hu=>by simp at hu) (fun u hu=>by cases hu) h63 hbytes hbase;exact⟨v',w',r1,r2,r3,r4⟩
   ·obtain⟨u0,hu0⟩:∃u,news[0]? = some u:=⟨_,List.getElem?_eq_getElem (List.length_pos_iff.2 hm)⟩;have hb:=(hcell 0 u0 hu0).1;obtain rfl:=zs hb;obtain⟨v',w',r1,r2,r3,r4⟩:=run_append_own (P:=P) w base t ty e i z size bytes ht hi hz hsize hby hzs hsz v n xs hown ⟨b,off,none⟩ m c news hl (fun j u hu=>by rw[Addr.add_lit]; exact(hcell j u hu).2) h1 h63 hbytes hbase;exact⟨v',w',r1,r2,r3,r4⟩
 | none=>
   have hm:news = []:=by
    cases news with
    | nil=>rfl
    | cons u us=>have:=(hcell 0 u rfl).1; cases this
   subst hm;have h0:m=0:=by
    have:m * size=0:=by simpa using hl.symm
    rcases Nat.mul_eq_zero.1 this with h | h
    ·exact h
    ·omega
   subst h0;refine⟨v,w,?_,by simpa using hown,World.grownBy.refl _ _,by simp⟩;rcases hown.2 with ⟨rfl,rfl⟩ | ⟨g,cap,cur,rfl,_,_,hnc,_⟩
   ·simp[Builtin.append_,run_underlying ht,sizeOf,typeInfo,hi,Builtin.lenOf,Builtin.firstCells]
   ·simp[Builtin.append_,run_underlying ht,sizeOf,typeInfo,hi,Builtin.lenOf,Builtin.firstCells,hnc,storeCells]
theorem sO{ops:Array Oper}{rest:List Oper}{o:Oper}{a:Act}{Q:Exit->Act->World->Prop}{w:World}(hg:o.guard=none)(s x:Operand){t:TypeId}
 (hop:o.op=.call { callee:=.builtin .append,args:=#[s,x],argTypes:=#[t,t] }){e:TypeId}{i:TypeInfo}{z:Value}{size bytes base:Nat}
 (ht:P.underlying t=some (.slice e))(hi:P.info? e=some i)(hz:i.zero=some z)(hsize:i.size=size)(hby:i.bytes=bytes)(hzs:z.cells.size=size)(hsz:0<size)
 {v:Value}{n:Nat}{xs:List Value}(hown:w.ownsRow base e size v n xs)(hv:a.eval s=v){vs:Value}{m:Nat}{news:List Value}(hs:Reads w size vs m news)(hx:a.eval x=vs)(h1:∀u ∈ news,u.oneCell'=true)
 (h63:n+m<=maxLen)(hbytes:(n+m) * bytes<=140737488355328)(hbase:base<=w.heap.size)
 (hK:∀v' w',w'.ownsRow base e size v' (n+m) (xs++news)->w.grownBy w' v.ownBlock->(v'=.slice none 0 0↔v=.slice none 0 0/\m=0)->wpList P ops Q rest (a.put o.dst v') w'):wpList P ops Q (o :: rest) a w:=by
 refine wpList_plain hg fun K hK'=>?_
 obtain⟨v',w',hrun,r1,r2,r3⟩:=Ny (ty:=o.type) ht hi hz hsize hby hzs hsz hown hs h1 h63 hbytes hbase;unfold Oper.wp;simp[execOp,hop,resolve,invoke,builtin,hv,hx,hrun,Result.andThen];exact hK' _ _ (hK v' w' r1 r2 r3)
end
def slen:Value->Nat
 | .slice _ n _=>n
 | _=>0
theorem Um{w:World}{base e size n:Nat}{v:Value}{xs:List Value}(h:w.ownsRow base e size v n xs)(hv:v≠ .slice none 0 0):∃g cap,v=.slice (some ⟨g,0,none⟩) n cap/\base<=g/\g<w.heap.size/\n<=cap:=by
 rcases h.2 with ⟨h,_⟩ | ⟨g,cap,cur,rfl,hb,hg,hn,_⟩
 ·exact(hv h).elim
 ·exact⟨g,cap,rfl,hb,(Array.getElem?_eq_some_iff.1 hg).1,hn⟩
theorem vJ{w:World}{base e:Nat}{v:Value}{m:Nat}(h:w.ownsRow base e 1 v m (madeCells (Value.int .u8 0).cells (m * 1)).toList):w.ownsRow base e 1 v m (bs (List.replicate m 0)):=by
 have e1:(madeCells (Value.int .u8 0).cells (m * 1)).toList=bs (List.replicate m 0):=by simp only[Value.cells,toList_madeCells_one,nH,Nat.mul_one];rfl
 rw[<-e1]; exact h
theorem lC{P:Program}{w:World}{ops:Array Oper}{rest:List Oper}{o:Oper}{a:Act}{Q:Exit->Act->World->Prop}
 (hg:o.guard=none)(l c:Operand){t:TypeId}(hop:o.op=Op.makeSlice t l c)
 {base:Nat}{e:TypeId}(h1:P.underlying t=some (.slice e))(h2:(P.info? e).map (fun i=>(i.zero,i.size,i.bytes))=some (some (.int .u8 0),1,1))
 {L C:Int}(n:Nat)(hl:a.eval l=.int .i64 L)(hc:a.eval c=.int .i64 C)(hL:L=(n:Int))(hC:C=(n:Int))(b3:n<=281474976710656)(b4:base<=w.heap.size)
 (hK:∀w',w'.ownsRow base e 1 (.slice (some ⟨w.heap.size,0,none⟩) n n) n (bs (List.replicate n 0))->w.grownBy w' none->wpList P ops Q rest (a.put o.dst (.slice (some ⟨w.heap.size,0,none⟩) n n)) w'):
 wpList P ops Q (o :: rest) a w:=by
 obtain⟨i0,hi,hz0,hz1,hz2⟩:=info_parts h2;exact wpList_make_full w hg l c t hop base e i0 _ 1 h1 hi hz0 hz1 .i64 .i64 L C n hl hc hL hC (by rw[hz2]; omega) (by unfold maxLen; omega) b4 fun w' h3 h4=>hK w' (vJ h3) h4
theorem lT{P:Program}{ops:Array Oper}{rest:List Oper}{o:Oper}{a:Act}{Q:Exit->Act->World->Prop}{w:World}(hg:o.guard=none)(s x:Operand){t:TypeId}
 (hop:o.op=.call { callee:=.builtin .append,args:=#[s,x],argTypes:=#[t,t] }){e:TypeId}{base:Nat}
 (ht:P.underlying t=some (.slice e))(h2:(P.info? e).map (fun i=>(i.zero,i.size,i.bytes))=some (some (.int .u8 0),1,1))
 {v:Value}{n:Nat}{l:List UInt8}(hown:w.ownsRow base e 1 v n (bs l))(hv:a.eval s=v){vs:Value}{m:List UInt8}(hs:Rd w vs m)(hx:a.eval x=vs)
 (h63:n+m.length<=140737488355328)(hbase:base<=w.heap.size)
 (hK:∀v' w',w'.ownsRow base e 1 v' (n+m.length) (bs (l++m))->w.grownBy w' v.ownBlock->(v'=.slice none 0 0↔v=.slice none 0 0/\m.length=0)->wpList P ops Q rest (a.put o.dst v') w'):wpList P ops Q (o :: rest) a w:=by
 obtain⟨i0,hi,hz0,hz1,hz2⟩:=info_parts h2;refine sO hg s x hop ht hi hz0 hz1 hz2 rfl (by omega) hown hv hs.reads hx (RG m) (by unfold maxLen; omega) (by omega) hbase fun v' w' g1 g2 g3=>?_
 rw[<-uX]at g1;exact hK v' w' g1 g2 g3
theorem jb{w:World}{base base' e size n:Nat}{v:Value}{xs:List Value}(h:w.ownsRow base e size v n xs)(hb:base'<=base):w.ownsRow base' e size v n xs:=by
 refine⟨h.1,?_⟩;rcases h.2 with h | ⟨g,cap,cur,hv,hg,r⟩
 ·exact .inl h
 ·exact .inr ⟨g,cap,cur,hv,zT hb hg,r⟩
def str(l:List UInt8):ByteArray:=⟨l.toArray⟩
theorem ax(l:List UInt8):(str l).size=l.length:=by simp[str,ByteArray.size]
theorem Ia(s:ByteArray):s=str s.data.toList:=by simp[str]
theorem sJ(l:List UInt8):(str l).toList=l:=ByteArray.toList_mk l
theorem dV{P:Program}{src dst e:TypeId}(hs:P.underlying src=some (.slice e))(he:P.underlying e=some (.int .u8))(hd:P.underlying dst=some .string)
 {w:World}{v:Value}{l:List UInt8}(h:Rd w v l):(convert src dst v).run P w=.ok (.string (str l)) w:=by
 obtain⟨h0,a,c,b,off,rfl,hc,hcell⟩:=h;by_cases hl:l = []
 ·subst hl;simp only[List.length_nil];cases a with
  | none=>exact run_convert_bytes_nil w src e hs he _ _ dst hd
  | some ad=>
    rw[run_convert_bytes_string w src dst e _ _ c hs he hd];rw[run_bytesToString w ad 0 c [] (by simpa using run_loadCells_list (P:=P) w ad [] (fun j v hj=>by simp at hj))];rfl
 ·obtain⟨rfl,_⟩:=hcell 0 (List.length_pos_iff.2 hl);rw[run_convert_bytes_arg w src e hs he b off _ c (l.map fun c=>(c.toNat:Int)) (by simp) (fun i hi=>by
   rw[(hcell i hi).2];simp[G.ix,List.getD_eq_getElem?_getD,List.getElem?_map,List.getElem?_eq_getElem hi]) dst hd]
  have e1:(l.map fun c=>(c.toNat:Int)).map (fun n=>UInt8.ofNat n.toNat)=l:=by
   rw[List.map_map]
   conv=>rhs; rw[<-List.map_id l]
   exact List.map_congr_left fun c _=>by simp
  unfold strOfNums str;rw[e1]
theorem Rd.nO{w:World}{base e n:Nat}{v:Value}{l:List UInt8}(h:w.ownsRow base e 1 v n (bs l))(hl:n<=140737488351232):Rd w v l:=by
 have e1:n=l.length:=by have:=h.1; simp[dN]at this; omega
 subst e1;exact Rd.bM h hl
theorem RH(a b:UInt8):((a.toNat:Int) == (b.toNat:Int))=decide (a=b):=by
 by_cases h:a=b
 ·subst h; simp
 ·simp only[h,decide_false,beq_eq_false_iff_ne];intro e;exact h (G.ext (by omega))
theorem RI(a b:UInt8):((a.toNat:Int) != (b.toNat:Int))=decide (a≠b):=by have:=RH a b;simp[bne,this]
theorem FX{P:Program}{f:FuncId}{args:Array Value}{w:World}{v:Ending}(h:Calls P f args w fun e w'=>e=v/\w=w'):Calls P f args w fun e w'=>e=v/\w'=w:=
 h.mono fun _ _ ⟨a,b⟩=>⟨a,b.symm⟩
theorem YJ(a b:UInt8):bits .xor .u8 (a.toNat:Int) (b.toNat:Int)=((a ^^^ b).toNat:Int):=by rw[u8_xor_nat _ _ (G.lt a) (G.lt b),UInt8.toNat_xor]
end
end Go.Proofs.YtfnehkmhcmkhjaaGreat
