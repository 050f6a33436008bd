/- Parts:XGen XRsW XDiv XEras XWi XWp -/
import Derived.Test.YtfnehkmhcmkhjaaGreatDvAl
import Derived.Test.YtfnehkmhcmkhjaaGreatDv05
import Derived.Test.YtfnehkmhcmkhjaaGreatDv09
import Derived.Test.YtfnehkmhcmkhjaaGreatDv02
import Derived.OneCell
import Derived.Deep.RegionWith
import Derived.RangeFuncBox
import Derived.RangeFuncLeaves
import Derived.RangeFuncWrites
import Derived.RangeFuncCalls
import Derived.Shelf.Abstract
import Derived.OwnWalkIn
import Derived.TacticsInMore
import Derived.LoopNIn
import Derived.LoopIn
set_option maxRecDepth 100000
set_option maxHeartbeats 8000000
set_option linter.unusedVariables false
namespace Go.Proofs.YtfnehkmhcmkhjaaGreat
open Tryz
section
open Go.RowKit
theorem Dw(n:Nat)(w:World)(hn:n<=32):
 Calls prog 251 #[.int .i64 n] w fun e w'=>∃v,e=.returned (.tuple #[v,.int .i64 0])/\w'.ownsRow w.heap.size 5 1 v (n+1) (bs (G.gen n))/\Below w.heap.size w w':=by
 have hd1:decide ((n:Int)<0)=false:=by rw[decide_eq_false_iff_not]; omega
 have hd2:decide ((32:Int)<(n:Int))=false:=by rw[decide_eq_false_iff_not]; omega
 go_enter func251,ntmps251;go_wp2_with fail;have h1:(w.alloc (.cells #[B 1] 5)).ownsRow w.heap.size 5 1 (.slice (some ⟨w.heap.size,0,none⟩) 1 1) 1 (bs (G.gen 0)):=World.ownsRow_lit w #[B 1] 1 (zl _) (by simp[maxLen]) (by simp);have hb1:Below w.heap.size w (w.alloc (.cells #[B 1] 5)):=(zB _ _).alloc (zl _) _
 go_loopw [4,14] (fun vg vk wr=>∃k:Nat,k<=n/\vk=.int .i64 k/\wr.ownsRow w.heap.size 5 1 vg (G.gen k).length (bs (G.gen k))/\Below w.heap.size w wr) (fun _ vk _=>n - (RowKit.intOf vk).toNat)
 case atStart=>exact⟨0,by omega,rfl,h1,hb1⟩
 case round=>
  clear h1 hb1;obtain⟨k,hk,rfl,hown,hb⟩:=hrel;by_cases hlt:k<n
  ·have hbs:=hb.size;go_wp2_with fail;refine(SN _ (k:Int) _ rfl (by omega) (by omega)).mono ?_;rintro e w1 ⟨rfl,rfl⟩;have hE:(Gf.exp (ex (k:Int)):Nat)=(G.exp k).toNat:=by rw[G.Qn]; congr 1; unfold ex; omega
   rw[hE];clear hE;go_wp2_with fail;have hgl:=G.jo k;have ho2:(wr.alloc (.cells #[B 1,B (G.exp k)] 5)).ownsRow w.heap.size 5 1 (.slice (some ⟨wr.heap.size,0,none⟩) 2 2) [1,G.exp k].length (bs [1,G.exp k]):=World.ownsRow_lit wr #[B 1,B (G.exp k)] 2 hbs (by simp[maxLen]) (by simp);have hb2:Below w.heap.size w (wr.alloc (.cells #[B 1,B (G.exp k)] 5)):=hb.alloc hbs _;refine(GY _ _ (G.gen k) [1,G.exp k] _ ((Rd.bM hown (by omega)).keep ((zB _ _).alloc (zl _) _)) (Rd.bM ho2 (by simp))).mono ?_;rintro e w2 ⟨v,rfl,ho3,hb3⟩;have ho4:=jb ho3 (hb2.size);have hb4:=hb2.trans (hb3.mono hb2.size);clear ho3 hb3 ho2 hb2 hown hgl;go_wp2_with fail;go_roundw;case rel=>exact⟨k+1,by omega,by go_num,ho4,hb4⟩
   case measure=>simp[RowKit.intOf]; omega
  ·obtain rfl:k=n:=by omega
   rw[G.jo]at hown;go_wp2_with fail;go_ret2;exact⟨_,rfl,hown,hb⟩
theorem aaJ(n:Nat):G.gen n≠[]:=by have:=G.jo n;intro e; rw[e]at this; simp at this
theorem Ve(n:Nat):lu (G.gen n)=G.gen n:=KZ _ (by rw[G.SY]; decide)
theorem KT(l m:List UInt8):str l++str m=str (l++m):=by apply ByteArray.ext;simp[str]
theorem Ox(l:List UInt8)(n:Nat)(w:World)(hl:l≠[])(h1:1<=n)(h2:n<=16)(h3:l.length+n<=255):
 Calls prog 169 #[.string (str l),.int .i64 n] w fun e w'=>e=.returned (.tuple #[.string (str (G.enc l n)),.int .i64 0])/\Below w.heap.size w w':=by
 have hs:=ax l;have he:(str l).toList.isEmpty=false:=by rw[sJ]; simpa using hl
 have h3':(l.length:Int)+n<=255:=by omega
 have hd1:decide ((n:Int)<1)=false:=by simp; omega
 have hd2:decide (16<(n:Int))=false:=by simp; omega
 have hd3:decide (255<(l.length:Int)+n)=false:=by simp; omega
 have H:=zH hl; clear hl;go_enter func169,ntmps169;go_wp2_with fail;refine(Dw n _ (by omega)).mono ?_;rintro e w1 ⟨vg,rfl,hg,hb1⟩;have hrg:=Rd.nO hg (by omega);clear hg;have OD:=hb1.size;have hsz:(str l).data.toList.length=l.length:=rfl;go_wp2_with (first | (refine jh rfl _ rfl underlying9 underlying65 underlying5 rfl ?_; intro w2 cap hr2 hb2 hcap; have hr2':Row w2 5 w1.heap.size cap l:=hr2; have hB2:=hb1.trans (hb2.mono OD); have ae3:=hB2.size; clear hr2) | (refine Ik rfl _ _ rfl underlying65 underlying3 infoU8 hr2' rfl rfl n rfl (by omega) ?_; intro g3 cap3 w3 hr3 OG hg3; have hB3:Below w.heap.size w w3:=hB2.grown OG ae3 (fun k hk=>by obtain rfl:=zs hk; exact OD); have hrg3:Rd w3 vg (G.gen n):=hrg.keepW (fun k hk=>(OG.block k (zL hk hb2.size) (by intro e; have:=zs e; omega)).trans (hb2.block k hk))));have aa3:=hr3.rd (by rw[List.length_append,List.length_replicate]; omega);rw[List.length_append,List.length_replicate]at aa3;have ae1:=hB3.size;clear hr3 OG hg3 hB2 hr2' hb2 hrg hb1;have hlen:=G.jo n;refine(Ee _ vg _ (G.gen n) (G.gen n) _ aa3 hrg3 (Ve n) (aaJ n) (by rw[List.length_append,List.length_replicate]; omega) (by omega)).mono ?_;rintro e w4 ⟨v4,rfl,hown4,hb4⟩;clear aa3 hrg3;have hrl:(G.rem (l++List.replicate n 0) (G.gen n)).length=n:=by rw[G.zJ,hlen]; omega
 have hx4:Rd w4 v4 (G.rem (l++List.replicate n 0) (G.gen n)):=Rd.nO hown4 (by omega);have hcx:=dV (P:=prog) underlying65 underlying5 underlying9 hx4;have hB4:=hB3.trans (hb4.mono ae1);have hss:(str (G.rem (l++List.replicate n 0) (G.gen n))).size=n:=by rw[ax]; exact hrl
 clear hrl hown4 hb4;go_wp2_with fail;go_ret2;refine⟨?_,hB4⟩;rw[KT];rfl
theorem Row.cells{w:World}{base e g cap n:Nat}{l:List UInt8}(h:w.ownsRow base e 1 (.slice (some ⟨g,0,none⟩) n cap) n (bs l)):Row w e g cap l:=(Row.DZ h).1
theorem sizeInt:(prog.info? 3).map (·.size)=some 1:=by kernel_rfl
def uS(w:World)(v:Value)(l:List Int):Prop:=
 l.length<=17592186044416/\(∃a cap b off,v=.slice a l.length cap/\l.length<=cap/\∀i,i<l.length->a=some ⟨b,off,none⟩/\w.cell? ⟨b,off+i,none⟩=some (.int .i64 (dm l i)))/\∀i,i<l.length-> -9223372036854775808<=dm l i/\dm l i<=9223372036854775807
theorem uS.keepW{w w':World}{v:Value}{l:List Int}(h:uS w v l)(hb:∀k,k<w.heap.size->w'.heap[k]? = w.heap[k]?):uS w' v l:=by obtain⟨h0,⟨a,cap,b,off,e,hc,hcell⟩,hr⟩:=h;refine⟨h0,⟨a,cap,b,off,e,hc,fun i hi=>⟨(hcell i hi).1,?_⟩⟩,hr⟩;have h2:=(hcell i hi).2;have h3:=zc w _ h2;rw[<-h2];simp[World.cell?,hb b (by simpa using h3)]
theorem uS.keep{w w':World}{v:Value}{l:List Int}(h:uS w v l)(hb:Below w.heap.size w w'):uS w' v l:=h.keepW hb.block
end
namespace W8
open Go.RowKit
def is(l:List Int):List Value:=l.map (Value.int .i64)
theorem Bo(l m:List Int):is (l++m)=is l++is m:=by simp[is]
theorem mP(l:List Int):(is l).length=l.length:=by simp[is]
theorem TM(l:List Int):∀u ∈ is l,u.oneCell'=true:=by intro u hu;simp only[is,List.mem_map]at hu;obtain⟨c,_,rfl⟩:=hu;rfl
theorem vz{l:List Int}{i:Nat}(h:i<l.length):(is l)[i]? = some (.int .i64 (dm l i)):=by simp[is,dm,h]
theorem nK{l:List Int}{i:Nat}(h:i<l.length):dm l i=l[i]:=by simp[dm,h]
theorem iZ{l:List Int}{i:Nat}(h:i<l.length):dm l i ∈ l:=by rw[nK h]; exact List.getElem_mem h
theorem Ea{w:World}{base e n:Nat}{v:Value}{l:List Int}(h:w.ownsRow base e 1 v n (is l))(hn:l.length=n)(hl:n<=17592186044416)(hr:∀x ∈ l,-9223372036854775808<=x/\x<=9223372036854775807):uS w v l:=by
 subst hn;refine⟨hl,?_,fun i hi=>hr _ (iZ hi)⟩;rcases h.2 with ⟨rfl,h0⟩ | ⟨g,cap,cur,rfl,hg,hh,hn,hm,hcs,ht⟩
 ·rw[h0]; exact⟨none,0,0,0,rfl,by omega,fun i hi=>by omega⟩
 ·refine⟨_,cap,g,0,rfl,hn,fun i hi=>⟨rfl,?_⟩⟩;rw[Nat.zero_add,h.cellAt i (by omega),vz hi]
theorem uS.reads{w:World}{v:Value}{l:List Int}(h:uS w v l):Reads w 1 v l.length (is l):=by
 obtain⟨h0,⟨a,c,b,off,rfl,hc,hcell⟩,hr⟩:=h;refine⟨by simp[mP],a,c,b,off,rfl,hc,fun i u hu=>?_⟩;have hi:i<l.length:=by have:=(List.getElem?_eq_some_iff.1 hu).1; rwa[mP]at this
 rw[vz hi]at hu;obtain rfl:=zs hu;exact hcell i hi
theorem vM(W:World)(l:List Int)(e:TypeId)(hl:l≠[]):Reads (W.alloc (.cells (is l).toArray e)) 1 (.slice (some ⟨W.heap.size,0,none⟩) l.length l.length) l.length (is l):=by refine⟨by simp[mP],_,_,W.heap.size,0,rfl,zl _,fun i u hu=>⟨rfl,?_⟩⟩;rw[cell_of_row _ _ _ _ _ _ (heap_alloc_new W _),Nat.zero_add];simpa using hu
theorem pY{P:Program}{ops:Array Oper}{rest:List Oper}{o:Oper}{a:Act}{Q:Exit->Act->World->Prop}{w:World}(hg:o.guard=none)(s x:Operand){t:TypeId}
 (hop:o.op=.call { callee:=.builtin .append,args:=#[s,x],argTypes:=#[t,t] }){e:TypeId}{base:Nat}
 (ht:P.underlying t=some (.slice e))(h2:(P.info? e).map (fun i=>(i.zero,i.size,i.bytes))=some (some (.int .i64 0),1,8))
 {v:Value}{n:Nat}{l:List Int}(hown:w.ownsRow base e 1 v n (is l))(hv:a.eval s=v){vs:Value}{m:List Int}(hs:Reads w 1 vs m.length (is m))(hx:a.eval x=vs)
 (h63:n+m.length<=1073741824)(hbase:base<=w.heap.size)
 (hK:∀v' w',w'.ownsRow base e 1 v' (n+m.length) (is (l++m))->w.grownBy w' v.ownBlock->wpList P ops Q rest (a.put o.dst v') w'):wpList P ops Q (o :: rest) a w:=by
 obtain⟨i0,hi,hz0,hz1,hz2⟩:=info_parts h2;refine sO hg s x hop ht hi hz0 hz1 hz2 rfl (by omega) hown hv hs hx (TM _) (by unfold maxLen; omega) (by omega) hbase fun v' w' g1 g2 g3=>?_
 rw[<-Bo]at g1;exact hK v' w' g1 g2
theorem vI{w w':World}{base e size n:Nat}{v:Value}{xs:List Value}(h:w.ownsRow base e size v n xs)(hb:Below w.heap.size w w'):w'.ownsRow base e size v n xs:=by
 refine⟨h.1,?_⟩;rcases h.2 with h2 | ⟨g,cap,cur,h1,h2,h3,h4⟩
 ·exact .inl h2
 ·exact .inr ⟨g,cap,cur,h1,h2,(hb.block g (Array.getElem?_eq_some_iff.1 h3).1).trans h3,h4⟩
theorem nR{w:World}{base e size n:Nat}{v:Value}{xs:List Value}(h:w.ownsRow base e size v n xs):∀k,v.ownBlock=some k->base<=k:=by
 intro k hk;rcases h.2 with ⟨rfl,_⟩ | ⟨g,cap,cur,rfl,h2,_⟩
 ·simp[Value.ownBlock]at hk
 ·simp only[Value.ownBlock,Option.some.injEq]at hk;omega
theorem ownsRow_nil(w:World)(base e:Nat):w.ownsRow base e 1 (.slice none 0 0) 0 (is []):=⟨rfl,.inl ⟨rfl,rfl⟩⟩
def pf(m i:Nat):Int:=12+2 * ((m:Int) / 2+43 * i)+m % 2
def qf(m i:Nat):Int:=12+2 * ((44 * i+43 * ((m:Int) / 2)) % 1118)+m % 2
def pl(m k:Nat):List Int:=(List.range k).map (pf m)
def ql(m k:Nat):List Int:=(List.range k).map (qf m)
def pw(m:Nat):List Int:=pl m 26
def qw(m:Nat):List Int:=ql m 43++[12+2 * (1118+(m:Int) / 2)+m % 2,12+2 * (1144+(m:Int) / 2)+m % 2]
theorem XX(m k:Nat):pl m (k+1)=pl m k++[pf m k]:=by simp[pl,List.range_succ]
theorem Yb(m k:Nat):ql m (k+1)=ql m k++[qf m k]:=by simp[ql,List.range_succ]
theorem Pj(m k:Nat):(pl m k).length=k:=by simp[pl]
theorem qI(m k:Nat):(ql m k).length=k:=by simp[ql]
theorem BI(m:Nat):(pw m).length=26:=Pj _ _
theorem BJ(m:Nat):(qw m).length=45:=by simp[qw,qI]
theorem adH{m i:Nat}(hm:m<86)(hi:i<26):12<=pf m i/\pf m i<2248:=by unfold pf; omega
theorem adJ{m i:Nat}(hm:m<52):12<=qf m i/\qf m i<2248:=by unfold qf; omega
theorem adI{m:Nat}(hm:m<86):∀x ∈ pw m,12<=x/\x<2352:=by intro x hx;simp only[pw,pl,List.mem_map,List.mem_range]at hx;obtain⟨i,hi,rfl⟩:=hx;have:=adH hm hi;omega
theorem adK{m:Nat}(hm:m<52):∀x ∈ qw m,12<=x/\x<2352:=by
 intro x hx;simp only[qw,ql,List.mem_append,List.mem_map,List.mem_range,List.mem_cons,List.not_mem_nil,or_false]at hx;rcases hx with ⟨i,hi,rfl⟩ | rfl | rfl
 ·have:=adJ (i:=i) hm;omega
 ·omega
 ·omega
def wd(k:Nat):List Int:=if k<86 then pw k else qw (k - 86)
theorem Zw{k:Nat}(hk:k<138):∀x ∈ wd k,12<=x/\x<2352:=by
 unfold wd;split
 ·exact adI ‹_›
 ·exact adK (by omega)
theorem kN(k:Nat):(wd k).length=if k<86 then 26 else 45:=by
 unfold wd;split
 ·exact BI _
 ·exact BJ _
theorem infoI64:(prog.info? 3).map (fun i=>(i.zero,i.size,i.bytes))=some (some (.int .i64 0),1,8):=by kernel_rfl
theorem xI(x y:Int)(w:World)(h1:0<=x)(h2:x<=1)(h3:0<=y)(h4:y<=100000):Calls prog 319 #[.int .i64 x,.int .i64 y] w fun e w'=>e=.returned (.int .i64 (12+2 * y+x))/\w=w':=by go_enter func319,ntmps319;go_wp2_with fail;go_ret;exact⟨rfl,rfl⟩
theorem Uu(m:Nat)(x:Int)(w:World)(hx:x=m)(h:m<86):Calls prog 249 #[.int .i64 x] w fun e w'=>∃v,e=.returned (.tuple #[v,.int .i64 0])/\w'.ownsRow w.heap.size 3 1 v 26 (is (pw m))/\Below w.heap.size w w':=by
 subst hx;have hm1:¬ ((m:Int)<0):=by omega
 have hm2:(m:Int)<86:=by omega
 have hm3:(0:Int)<=m:=by omega
 go_enter func249,ntmps249;go_wp2_with fail;have ho0:=ownsRow_nil w w.heap.size 3;have hb0:=zB w.heap.size w
 go_loopw [4,12] (fun vo vk wr=>∃k:Nat,k<=26/\vk=.int .i64 k/\wr.ownsRow w.heap.size 3 1 vo k (is (pl m k))/\Below w.heap.size w wr) (fun _ vk _=>26 - (RowKit.intOf vk).toNat)
 case atStart=>exact⟨0,by omega,rfl,ho0,hb0⟩
 case round=>
  clear ho0 hb0;obtain⟨k,hk,rfl,ho,hb⟩:=hrel;by_cases hlt:k<26
  ·have hbs:=hb.size;have hlt':(k:Int)<26:=by omega
   go_wp2_with fail;refine(xI _ _ _ (by omega) (by omega) (by omega) (by omega)).mono ?_;rintro e w1 ⟨rfl,rfl⟩;obtain⟨y,hy⟩:∃y:Int,y=12+2 * ((m:Int) / 2+43 * (k:Int))+m % 2:=⟨_,rfl⟩;rw[<-hy];have HY:Hid (y=pf m k):=zH hy;clear hy;have Aj:=vI ho ((zB wr.heap.size wr).alloc (zl _) (.cells #[.int .i64 y] 3));have rE:=vM wr [y] 3 (by simp);have hb6:=hb.alloc hbs (.cells #[.int .i64 y] 3);have tV:=hb6.size;clear ho hb;go_wp2_with (refine pY rfl _ _ rfl underlying31 infoI64 Aj rfl rE rfl (by simp; omega) tV ?_; intro v7 w7 nZ tX);have hb7:=hb6.grown tX tV (nR Aj);rw[HY.out,<-XX]at nZ;clear hb6 Aj rE tX;go_roundw;case rel=>exact⟨k+1,by omega,by go_num,nZ,hb7⟩
   case measure=>simp[RowKit.intOf]; omega
  ·obtain rfl:k=26:=by omega
   go_wp2_with fail;go_ret2;exact⟨_,rfl,ho,hb⟩
theorem Uw(m:Nat)(x:Int)(w:World)(hx:x=m)(h:m<52):Calls prog 250 #[.int .i64 x] w fun e w'=>∃v,e=.returned (.tuple #[v,.int .i64 0])/\w'.ownsRow w.heap.size 3 1 v 45 (is (qw m))/\Below w.heap.size w w':=by
 subst hx;have hm1:¬ ((m:Int)<0):=by omega
 have hm2:(m:Int)<52:=by omega
 have hm3:(0:Int)<=m:=by omega
 go_enter func250,ntmps250;go_wp2_with fail;have ho0:=ownsRow_nil w w.heap.size 3;have hb0:=zB w.heap.size w
 go_loopw [4,12] (fun vo vk wr=>∃k:Nat,k<=43/\vk=.int .i64 k/\wr.ownsRow w.heap.size 3 1 vo k (is (ql m k))/\Below w.heap.size w wr) (fun _ vk _=>43 - (RowKit.intOf vk).toNat)
 case atStart=>exact⟨0,by omega,rfl,ho0,hb0⟩
 case round=>
  clear ho0 hb0;obtain⟨k,hk,rfl,ho,hb⟩:=hrel;by_cases hlt:k<43
  ·have hbs:=hb.size;have hlt':(k:Int)<43:=by omega
   go_wp2_with fail;refine(xI _ _ _ (by omega) (by omega) (by omega) (by omega)).mono ?_;rintro e w1 ⟨rfl,rfl⟩;obtain⟨y,hy⟩:∃y:Int,y=12+2 * ((44 * (k:Int)+43 * ((m:Int) / 2)) % 1118)+m % 2:=⟨_,rfl⟩;rw[<-hy];have HY:Hid (y=qf m k):=zH hy;clear hy;have Aj:=vI ho ((zB wr.heap.size wr).alloc (zl _) (.cells #[.int .i64 y] 3));have rE:=vM wr [y] 3 (by simp);have hb6:=hb.alloc hbs (.cells #[.int .i64 y] 3);have tV:=hb6.size;clear ho hb;go_wp2_with (refine pY rfl _ _ rfl underlying31 infoI64 Aj rfl rE rfl (by simp; omega) tV ?_; intro v7 w7 nZ tX);have hb7:=hb6.grown tX tV (nR Aj);rw[HY.out,<-Yb]at nZ;clear hb6 Aj rE tX;go_roundw;case rel=>exact⟨k+1,by omega,by go_num,nZ,hb7⟩
   case measure=>simp[RowKit.intOf]; omega
  ·obtain rfl:k=43:=by omega
   have hbs:=hb.size;go_wp2_with fail;refine(xI _ _ _ (by omega) (by omega) (by omega) (by omega)).mono ?_;rintro e w1 ⟨rfl,rfl⟩;go_wp2_with fail;refine(xI _ _ _ (by omega) (by omega) (by omega) (by omega)).mono ?_;rintro e w1 ⟨rfl,rfl⟩;obtain⟨y,hy⟩:∃y:Int,y=12+2 * (1118+(m:Int) / 2)+m % 2:=⟨_,rfl⟩;obtain⟨z,hz⟩:∃z:Int,z=12+2 * (1144+(m:Int) / 2)+m % 2:=⟨_,rfl⟩;rw[<-hy,<-hz];have HW:Hid (qw m=ql m 43++[y,z]):=zH (by rw[hy,hz]; rfl);clear hy hz;have Aj:=vI ho ((zB wr.heap.size wr).alloc (zl _) (.cells #[.int .i64 y,.int .i64 z] 3));have rE:=vM wr [y,z] 3 (by simp);have hb6:=hb.alloc hbs (.cells #[.int .i64 y,.int .i64 z] 3);have tV:=hb6.size;clear ho hb;go_wp2_with (refine pY rfl _ _ rfl underlying31 infoI64 Aj rfl rE rfl (by simp) tV ?_; intro v7 w7 nZ tX);have hb7:=hb6.grown tX tV (nR Aj);rw[<-HW.out]at nZ;clear hb6 Aj rE tX;go_ret2;exact⟨_,rfl,nZ,hb7⟩
end W8
end Go.Proofs.YtfnehkmhcmkhjaaGreat
