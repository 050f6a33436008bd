/- Parts -/
import Derived.Test.YtfnehkmhcmkhjaaGreatDu05
import Derived.OneCell
import Derived.RangeFuncBox
import Derived.RangeFuncLeaves
import Derived.RangeFuncWrites
import Derived.RangeFuncCalls
import Derived.Shelf.Abstract
import Derived.OwnWalkIn
import Derived.TacticsInMore
import Derived.LoopNIn
import Derived.LoopIn
import Derived.Deep.RegionWith
import Derived.Test.YtfnehkmhcmkhjaaGreatDu01
import Derived.Test.YtfnehkmhcmkhjaaGreatDu06
set_option maxRecDepth 100000
set_option maxHeartbeats 8000000
set_option linter.unusedVariables false
namespace Go.Proofs.YtfnehkmhcmkhjaaGreat
open Tryz
section
open Go.RowKit
theorem VR(p:List UInt8):∀n,-1<=G.lS p n/\G.lS p n<n
 |0=>by simp[G.lS]
 |n+1=>by have:=VR p n;unfold G.lS;split <;> omega
theorem acu(p:List UInt8):-1<=G.jM p/\G.jM p<p.length:=VR p _
theorem wI(v:Value)(p:List UInt8)(w:World)(hv:Rd w v p):
 Calls prog 297 #[v] w λe w'=>e=.returned (.int .i64 (G.jM p))/\w=w':=by
 obtain⟨h0,a,cap,b,off,rfl,hcap,hcell⟩:=hv;have HC:=zH hcell;clear hcell;go_enter func297,ntmps297;go_wp2_with fail
 go_loop [3] (λvk=>∃m:Nat,m<=p.length/\vk=.int .i64 ((m:Int)-1)/\Hid (G.jM p=G.lS p m)) (λvk=>(RowKit.intOf vk+1).toNat)
 case atStart=>exact⟨p.length,zl _,rfl,zH rfl⟩
 case round=>
  obtain⟨m,hm,rfl,HD⟩:=hrel;by_cases h0m:m=0
  ·subst h0m;go_wp2_with fail;go_ret;exact⟨QZ (by rw[HD.out];simp[G.lS]),rfl⟩
  ·obtain⟨k,rfl⟩:∃k,m=k+1:=⟨m-1,by omega⟩;have hk1:((k+1:Nat):Int)-1=k:=by omega
   simp only[hk1];obtain⟨ha,hcp⟩:=HC.out k (by omega);have hix:=bJ (P:=prog) underlying366 sizeU8 (cap:=cap) ha (show k<p.length by omega) _ rfl w;have Ha:=zH ha;clear ha;by_cases hc:G.ix p k=0
   ·have hb:((G.ix p k).toNat:Int)=0:=by rw[hc];rfl
    have Hc:=zH hc;clear hc;have hb0:(((G.ix p k).toNat:Int) == 0)=true:=by rw[hb];rfl
    clear hb;go_wp2_with fail;go_round;case rel=>
     refine⟨k,by omega,rfl,zH ?_⟩;rw[HD.out];simp[G.lS,Hc.out]
    case measure=>simp[RowKit.intOf]
   ·have hb0:(((G.ix p k).toNat:Int) == 0)=false:=by rw[Ad];simpa using hc
    have Hc:=zH hc;clear hc;go_wp2_with fail;go_ret;exact⟨QZ (by rw[HD.out];simp[G.lS,Hc.out]),rfl⟩
theorem times_any(vp vq:Value)(p q:List UInt8)(w:World)(hp:Rd w vp p)(hq:Rd w vq q):
 Calls prog 300 #[vp,vq] w λe w'=>∃v,e=.returned v/\w'.ownsRow w.heap.size 5 1 v (G.prod p q).length (bs (G.prod p q))/\Below w.heap.size w w':=by
 go_enter func300,ntmps300;go_wp2_with fail;refine(BJ vp vq p q _ hp hq).mono ?_;rintro e w' ⟨v,rfl,ho,hb⟩;go_wp2_with fail;go_ret;exact⟨_,rfl,ho,hb⟩
theorem OW(ad:Addr)(cap:Nat)(l:List UInt8)(w:World)(hv:Rd w (.slice (some ad) l.length cap) l):
 Calls prog 362 #[.slice (some ad) l.length cap] w λe w'=>∃v,e=.returned v/\w'.ownsRow w.heap.size 5 1 v l.length (bs l)/\Below w.heap.size w w':=by
 have hq:=λwx=>Lib.run_eql_slice_nil (P:=prog) wx 366 5 (some ad) l.length cap 0 0 underlying366
 have hl:=hv.1;have hoe:(w.alloc (.cells #[] 5)).ownsRow w.heap.size 5 1 (.slice (some ⟨w.heap.size,0,none⟩) 0 0) 0 (bs []):=Xc w #[] 0 (zl _) (by simp) (by simp);have hve:Rd (w.alloc (.cells #[] 5)) (.slice (some ad) l.length cap) l:=hv.keep ((zB _ _).alloc (zl _) _);have hbe:Below w.heap.size w (w.alloc (.cells #[] 5)):=(zB _ _).alloc (zl _) _;go_enter func362,ntmps362;go_wp2_with (refine pg rfl _ _ rfl underlying366 infoU8 hoe rfl hve rfl (by omega) hbe.size ?_;intro v4 w4 hown4 EM _);go_ret;rw[YV,Yf]at hown4;exact⟨_,rfl,hown4,hbe.grown EM hbe.size (by simp[Value.ownBlock])⟩
theorem zJ{P:Program}{ops:Array Oper}{rest:List Oper}{o:Oper}{a:Act}{Q:Exit->Act->World->Prop}{w:World}(hg:o.guard=none)(d s:Operand){dT sT:TypeId}
 (hop:o.op=.call {callee:=.builtin .copy,args:=#[d,s],argTypes:=#[dT,sT]}){e base:Nat}(ht:P.underlying dT=some (.slice e))(hsz:(P.info? e).map (·.size)=some 1)
 {g n cap:Nat}{l p:List UInt8}{vp:Value}(hd:a.eval d=.slice (some ⟨g,0,none⟩) n cap)(h:w.ownsRow base e 1 (.slice (some ⟨g,0,none⟩) n cap) n (bs l))(hs:a.eval s=vp)(hp:Rd w vp p)(hle:p.length<=n)
 (hK:∀w',w'.ownsRow base e 1 (.slice (some ⟨g,0,none⟩) n cap) n (bs (p++l.drop p.length))->w.grownBy w' (some g)->wpList P ops Q rest (a.put o.dst (goInt p.length)) w'):wpList P ops Q (o::rest) a w:=by
 obtain⟨hp0,sa,sc,b,off,rfl,hpc,EN⟩:=hp;have hl:l.length=n:=by have:=h.1;simpa[bf]using this
 rcases h.2 with ⟨h',_⟩|⟨g',cap',cur,h',hb,hg',hn,hm,hs',ht'⟩
 ·simp at h'
 ·simp only[YT,YA,Addr.mk.injEq,and_true,true_and]at h';obtain⟨rfl,rfl⟩:=h';have hcs:(bs p).length=p.length:=bf p;have hcl:cur.size=cap:=by simpa using hs'
  by_cases h0:p.length=0
  ·obtain rfl:=Xu h0;refine wpList_copy_nothing hg d s dT sT hop e ht hsz _ _ n cap _ sc hd hs (by simp) ?_;exact hK w (by simpa using h) (World.grownBy.refl w _)
  ·obtain⟨rfl,-⟩:=EN 0 (by omega);refine wpList_copy_own hg d s dT sT hop e ht hsz g 0 n cap ⟨b,off,none⟩ p.length sc hd hs cur e hg' (bs p) (by rw[hcs];exact(XU hle).symm) ?_ (by rw[hcs];omega) (SH p) ?_
   ·intro j v hj;have hj':j<p.length:=by have:=(Yr.1 hj).1;omega
    rw[jh hj']at hj;obtain rfl:=zs hj;rw[XF];exact(EN j hj').2
   ·rw[hcs];refine hK _ ⟨by simp[bf];omega,.inr ⟨g,cap,_,rfl,hb,XP w g cur _ e _ hg',hn,hm,?_,?_⟩⟩ ⟨rfl,rfl,rfl,by simp,λk _ hk=>setRow_other w g k _ (λe=>hk (by rw[e]))⟩
    ·simp[bf];omega
    ·simp only[Yf,List.take_zero,YV];rw[uI];have e1:cur.toList.take n=bs l:=by simpa using ht'
     simp only[Yy];rw[List.take_append,hcs,YE (by rw[hcs];omega)]
     congr 1
     rw[List.take_drop,show p.length+(n-p.length)=n by omega,e1];simp[bs]
theorem uQ(l:List UInt8)(c:UInt8){i k:Nat}(h:¬ i=k):G.ix (l.set k c) i=G.ix l i:=by unfold G.ix;rw[Ya,XO (λe=>h e.symm),<-Ya]
theorem BD(l:List UInt8)(c:UInt8){k:Nat}(h:k<l.length):G.ix (l.set k c) k=c:=by simp[G.ix,h]
theorem WA(p q:List UInt8)(i:Nat)(h:i<max p.length q.length):G.ix (G.plus p q) i=G.ix p i^^^G.ix q i:=by simp[G.plus,G.ix,h]
theorem uq(p q:List UInt8):(G.plus p q).length=max p.length q.length:=by simp[G.plus]
theorem ahi(vp vq:Value)(p q:List UInt8)(w:World)(hp:Rd w vp p)(hq:Rd w vq q)(hlt:p.length<q.length):
 Calls prog 299 #[vp,vq] w λe w'=>∃v,e=.returned v/\w'.ownsRow w.heap.size 5 1 v q.length (bs (G.plus p q))/\Below w.heap.size w w':=by
 have hpl:=hp.1;have hpn:p.length<=q.length:=by omega
 have hqn:q.length<=q.length:=by omega
 obtain⟨hql,qa,qc,qb,qo,rfl,hqc,EO⟩:=hq;have HC:=zH EO;clear EO;obtain⟨pa,pc,rfl⟩:=hp.form;have adh:q.length<=281474976710656:=by omega
 have HM:Hid (max p.length q.length=q.length):=zH (by omega);go_enter func299,ntmps299;go_wp2_with (first|(refine fM (base:=w.heap.size) rfl _ _ rfl underlying366 infoU8 q.length rfl rfl rfl rfl adh (zl _) ?_;intro w3 hown3 lG;have hb3:Below w.heap.size w w3:=(zB _ _).grown lG (zl _) (by simp);have adn:=hp.keepW (λk hk=>lG.block k hk (by simp));have ac5:=hb3.size)|(refine zJ rfl _ _ rfl underlying366 sizeU8 rfl hown3 rfl adn hpn ?_;intro w4 hown4 EM;have hb4:Below w.heap.size w w4:=hb3.grown EM ac5 (λk hk=>by obtain rfl:=zs hk;exact zl _)));rw[show p++(List.replicate q.length 0).drop p.length=p++List.replicate (q.length-p.length) 0 by rw[List.drop_replicate]]at hown4;clear lG EM hown3 adn hb3 ac5 hp
 go_loopw [6,7,19] (λ_ _ vk wr=>∃(k:Nat)(R:List UInt8),k<=q.length/\vk=.int .i64 k/\wr.ownsRow w.heap.size 5 1 (.slice (some ⟨w.heap.size,0,none⟩) q.length q.length) q.length (bs R)/\Hid (R.length=q.length)/\Hid (∀i,i<q.length->G.ix R i=if i<k then G.ix p i^^^G.ix q i else G.ix p i)/\Below w.heap.size w wr) (λ_ _ vk _=>q.length-(RowKit.intOf vk).toNat)
 case atStart=>
  refine⟨0,_,by omega,rfl,hown4,zH (by rw[Yb,Yq];omega),zH (λi hi=>?_),hb4⟩;simp only[Nat.not_lt_zero,if_false];unfold G.ix;rw[Ya,Ya,List.getElem?_append];split
  ·rfl
  ·next hh=>first|(rw[Yh (Nat.le_of_not_lt hh),List.getElem?_replicate];split <;> rfl)|exact(hh hi).elim
 case round=>
  clear hown4 hb4;obtain⟨k,R,hk,rfl,ho,HL,HI,hb⟩:=hrel;by_cases hkq:k<q.length
  ·obtain⟨ha,hcp⟩:=HC.out k hkq;have hqw:wr.cell? ⟨qb,qo+k,none⟩=some (B (G.ix q k)):=by rw[<-hcp];exact hb.cell (zc w _ hcp)
   clear hcp;have hix:=bJ (P:=prog) underlying366 sizeU8 (cap:=qc) ha hkq _ rfl wr;have Ha:=zH ha;clear ha;have hkn:k<q.length:=by omega
   have hcs:=Aq ho rfl k hkn;have hfs:=uo ho rfl k;have hR:=HI.out k hkn;simp only[Nat.lt_irrefl,if_false]at hR;rw[hR]at hcs;have HR:=zH hR;clear hR;have Hst:=zH (wX ho rfl k (G.ix p k^^^G.ix q k));have hxb:=GH (G.ix p k) (G.ix q k);go_wp2_with fail;go_roundw;case rel=>
    refine⟨k+1,_,by omega,by go_num,Hst.out,zH (by rw[Yu,HL.out]),zH λi hi=>?_,hb.setCell (zl _) _⟩;have hL:=HL.out;by_cases e:i=k
    ·subst e;simp[G.ix,(by omega:i<R.length)]
    ·have:=HI.out i hi;have e2:(i<k+1)↔(i<k):=by omega
     rw[uQ _ _ e,this];simp only[e2]
   case measure=>simp[RowKit.intOf];omega
  ·go_wp2_with fail;go_ret;have e:R=G.plus p q:=by
    apply G.jR
    ·rw[HL.out,uq,HM.out]
    ·intro i hi;rw[HL.out]at hi;rw[HI.out i hi,WA p q i (by rw[HM.out];exact hi)];split
     ·rfl
     ·rw[show G.ix q i=0 from by unfold G.ix;rw[Ya,Yh (by omega)];rfl];simp
   rw[<-e];exact⟨_,rfl,ho,hb⟩
theorem ahh(vp vq:Value)(p q:List UInt8)(w:World)(hp:Rd w vp p)(hq:Rd w vq q)(hlt:¬ p.length<q.length):
 Calls prog 299 #[vp,vq] w λe w'=>∃v,e=.returned v/\w'.ownsRow w.heap.size 5 1 v p.length (bs (G.plus p q))/\Below w.heap.size w w':=by
 have hpl:=hp.1;have hpn:p.length<=p.length:=by omega
 have hqn:q.length<=p.length:=by omega
 obtain⟨hql,qa,qc,qb,qo,rfl,hqc,EO⟩:=hq;have HC:=zH EO;clear EO;obtain⟨pa,pc,rfl⟩:=hp.form;have adh:p.length<=281474976710656:=by omega
 have HM:Hid (max p.length q.length=p.length):=zH (by omega);go_enter func299,ntmps299;go_wp2_with (first|(refine fM (base:=w.heap.size) rfl _ _ rfl underlying366 infoU8 p.length rfl rfl rfl rfl adh (zl _) ?_;intro w3 hown3 lG;have hb3:Below w.heap.size w w3:=(zB _ _).grown lG (zl _) (by simp);have adn:=hp.keepW (λk hk=>lG.block k hk (by simp));have ac5:=hb3.size)|(refine zJ rfl _ _ rfl underlying366 sizeU8 rfl hown3 rfl adn hpn ?_;intro w4 hown4 EM;have hb4:Below w.heap.size w w4:=hb3.grown EM ac5 (λk hk=>by obtain rfl:=zs hk;exact zl _)));rw[show p++(List.replicate p.length 0).drop p.length=p++List.replicate (p.length-p.length) 0 by rw[List.drop_replicate]]at hown4;clear lG EM hown3 adn hb3 ac5 hp
 go_loopw [6,7,19] (λ_ _ vk wr=>∃(k:Nat)(R:List UInt8),k<=q.length/\vk=.int .i64 k/\wr.ownsRow w.heap.size 5 1 (.slice (some ⟨w.heap.size,0,none⟩) p.length p.length) p.length (bs R)/\Hid (R.length=p.length)/\Hid (∀i,i<p.length->G.ix R i=if i<k then G.ix p i^^^G.ix q i else G.ix p i)/\Below w.heap.size w wr) (λ_ _ vk _=>q.length-(RowKit.intOf vk).toNat)
 case atStart=>
  refine⟨0,_,by omega,rfl,hown4,zH (by rw[Yb,Yq];omega),zH (λi hi=>?_),hb4⟩;simp only[Nat.not_lt_zero,if_false];unfold G.ix;rw[Ya,Ya,List.getElem?_append];split
  ·rfl
  ·next hh=>first|(rw[Yh (Nat.le_of_not_lt hh),List.getElem?_replicate];split <;> rfl)|exact(hh hi).elim
 case round=>
  clear hown4 hb4;obtain⟨k,R,hk,rfl,ho,HL,HI,hb⟩:=hrel;by_cases hkq:k<q.length
  ·obtain⟨ha,hcp⟩:=HC.out k hkq;have hqw:wr.cell? ⟨qb,qo+k,none⟩=some (B (G.ix q k)):=by rw[<-hcp];exact hb.cell (zc w _ hcp)
   clear hcp;have hix:=bJ (P:=prog) underlying366 sizeU8 (cap:=qc) ha hkq _ rfl wr;have Ha:=zH ha;clear ha;have hkn:k<p.length:=by omega
   have hcs:=Aq ho rfl k hkn;have hfs:=uo ho rfl k;have hR:=HI.out k hkn;simp only[Nat.lt_irrefl,if_false]at hR;rw[hR]at hcs;have HR:=zH hR;clear hR;have Hst:=zH (wX ho rfl k (G.ix p k^^^G.ix q k));have hxb:=GH (G.ix p k) (G.ix q k);go_wp2_with fail;go_roundw;case rel=>
    refine⟨k+1,_,by omega,by go_num,Hst.out,zH (by rw[Yu,HL.out]),zH λi hi=>?_,hb.setCell (zl _) _⟩;have hL:=HL.out;by_cases e:i=k
    ·subst e;simp[G.ix,(by omega:i<R.length)]
    ·have:=HI.out i hi;have e2:(i<k+1)↔(i<k):=by omega
     rw[uQ _ _ e,this];simp only[e2]
   case measure=>simp[RowKit.intOf];omega
  ·go_wp2_with fail;go_ret;have e:R=G.plus p q:=by
    apply G.jR
    ·rw[HL.out,uq,HM.out]
    ·intro i hi;rw[HL.out]at hi;rw[HI.out i hi,WA p q i (by rw[HM.out];exact hi)];split
     ·rfl
     ·rw[show G.ix q i=0 from by unfold G.ix;rw[Ya,Yh (by omega)];rfl];simp
   rw[<-e];exact⟨_,rfl,ho,hb⟩
theorem aeg(vp vq:Value)(p q:List UInt8)(w:World)(hp:Rd w vp p)(hq:Rd w vq q):
 Calls prog 299 #[vp,vq] w λe w'=>∃v,e=.returned v/\w'.ownsRow w.heap.size 5 1 v (G.plus p q).length (bs (G.plus p q))/\Below w.heap.size w w':=by
 rw[uq];by_cases h:p.length<q.length
 ·have:=ahi vp vq p q w hp hq h;rwa[<-Nat.max_eq_right (Nat.le_of_lt h)]at this
 ·have:=ahh vp vq p q w hp hq h;rwa[<-Nat.max_eq_left (Nat.le_of_not_lt h)]at this
theorem adC(p:List UInt8)(i:Nat)(h:i<p.length-1):G.ix (G.fC p) i=if i%2=0 then G.ix p (i+1) else 0:=by simp[G.fC,G.ix,h]
theorem qV(p:List UInt8):(G.fC p).length=p.length-1:=by simp[G.fC]
theorem Eh(vp:Value)(p:List UInt8)(w:World)(hp:Rd w vp p)(hp1:1<=p.length):
 Calls prog 363 #[vp] w λe w'=>∃v,e=.returned v/\w'.ownsRow w.heap.size 5 1 v (p.length-1) (bs (G.fC p))/\Below w.heap.size w w':=by
 obtain⟨hpl,pa,pc,pb,po,rfl,hpc,EN⟩:=hp;have HC:=zH EN;clear EN;obtain⟨n,hn⟩:∃n,p.length=n+1:=⟨p.length-1,by omega⟩;have hn1:(p.length:Int)-1=n:=by omega
 have hn2:p.length-1=n:=by omega
 have hmx:max (n:Int) 0=n:=by omega
 have adh:n<=281474976710656:=by omega
 rw[hn2];have hD:=qV p;rw[hn2]at hD;have HD:=zH hD;clear hD;have Zr:=zH hn2;clear hn2;go_enter func363,ntmps363;go_wp2_with (refine fM (base:=w.heap.size) rfl _ _ rfl underlying366 infoU8 n rfl rfl rfl rfl adh (zl _) ?_;intro w3 hown3 lG;have hb3:Below w.heap.size w w3:=(zB _ _).grown lG (zl _) (by simp));clear lG
 go_loopw [4,12] (λ_ vk wr=>∃(k:Nat)(R:List UInt8),k<=n/\vk=.int .i64 k/\wr.ownsRow w.heap.size 5 1 (.slice (some ⟨w.heap.size,0,none⟩) n n) n (bs R)/\Hid (R.length=n)/\Hid (∀i,i<n->G.ix R i=if i<k then G.ix (G.fC p) i else 0)/\Below w.heap.size w wr) (λ_ vk _=>n-(RowKit.intOf vk).toNat)
 case atStart=>
  refine⟨0,_,by omega,rfl,hown3,zH (by simp),zH (λi hi=>?_),hb3⟩;simp only[Nat.not_lt_zero,if_false];unfold G.ix;rw[Ya,List.getElem?_replicate];split <;> rfl
 case round=>
  clear hown3 hb3;obtain⟨k,R,hk,rfl,ho,HL,HI,hb⟩:=hrel;by_cases hkn:k<n
  ·have HV:Hid (G.ix (G.fC p) k=if k%2=0 then G.ix p (k+1) else 0):=zH (adC p k (by omega));obtain⟨ha,hcp⟩:=HC.out (k+1) (by omega);have hqw:wr.cell? ⟨pb,po+(k+1),none⟩=some (B (G.ix p (k+1))):=by rw[<-hcp];exact hb.cell (zc w _ hcp)
   clear hcp;have hk1:k+1<n+1:=by omega
   have hix:=bJ (P:=prog) underlying366 sizeU8 (cap:=pc) ha hk1 ((k:Int)+1) (by omega) wr;have Ha:=zH ha;clear ha;have hcs:=Aq ho rfl k hkn;have hfs:=uo ho rfl k;by_cases hev:k%2=0
   ·have hz:((k:Int)%2 == 0)=true:=by rw[YG];omega
    have Hev:=zH hev;clear hev;have Hst:=zH (wX ho rfl k (G.ix p (k+1)));go_wp2_with fail;go_roundw;case rel=>
     refine⟨k+1,_,by omega,by go_num,Hst.out,zH (by rw[Yu,HL.out]),zH λi hi=>?_,hb.setCell (zl _) _⟩;have hL:=HL.out;by_cases e:i=k
     ·subst e;rw[BD _ _ (by omega),zj (by omega),HV.out,zj Hev.out]
     ·have:=HI.out i hi;have e2:(i<k+1)↔(i<k):=by omega
      rw[uQ _ _ e,this];simp only[e2]
    case measure=>simp[RowKit.intOf];omega
   ·have hz:((k:Int)%2 == 0)=false:=by rw[Yc];omega
    have Hev:=zH hev;clear hev;go_wp2_with fail;go_roundw;case rel=>
     refine⟨k+1,_,by omega,by go_num,ho,HL,zH λi hi=>?_,hb⟩;by_cases e:i=k
     ·subst e;rw[HI.out i hi,zi (by omega),zj (by omega),HV.out,zi Hev.out]
     ·have:=HI.out i hi;have e2:(i<k+1)↔(i<k):=by omega
      rw[this];simp only[e2]
    case measure=>simp[RowKit.intOf];omega
  ·go_wp2_with fail;go_ret;have e:R=G.fC p:=by
    apply G.jR
    ·rw[HL.out,HD.out]
    ·intro i hi;rw[HL.out]at hi;rw[HI.out i hi,zj (by omega)]
   rw[<-e];exact⟨_,rfl,ho,hb⟩
theorem Row.other{w:World}{e g cap:Nat}{l:List UInt8}(h:Row w e g cap l){a:Addr}(ha:g≠a.block)(u:Value):Row (w.setCell a u) e g cap l:=
 h.keep (zh _ _ _ _ ha)
theorem Row.drew{w:World}{e g cap:Nat}{l:List UInt8}(h:Row w e g cap l):Row w.drew e g cap l:=h.keep rfl
theorem Row.cells{w:World}{base e g cap n:Nat}{l:List UInt8}(h:w.ownsRow base e 1 (.slice (some ⟨g,0,none⟩) n cap) n (bs l)):Row w e g cap l:=(Row.ML h).1
theorem VQ(p:List UInt8):∀(m n:Nat),G.lS p m=(n:Int)->G.ix p n≠0
 |0,n,h=>by simp[G.lS]at h
 | m+1,n,h=>by
   unfold G.lS at h;split at h
   ·exact VQ p m n h
   ·next hh=>obtain rfl:m=n:=by omega
             exact hh
theorem aji{p:List UInt8}{n:Nat}(h:G.jM p=(n:Int)):G.ix p n≠0:=VQ p _ n h
theorem tH(q:List UInt8)(n:Nat)(iv:UInt8):∀(k:Nat)(s:List UInt8×List UInt8),(G.dQ q n iv k s).1.length=s.1.length/\(G.dQ q n iv k s).2.length=s.2.length
 |0,s=>⟨rfl,rfl⟩
 |k+1,s=>by rw[G.dQ];obtain⟨h1,h2⟩:=tH q n iv k (G.kX q n iv (n+k) s);rw[h1,h2];simp[G.kX,G.bI]
theorem Tn(ad:Addr)(cp:Nat)(vq:Value)(p q:List UInt8)(n:Nat)(w:World)(hp:Rd w (.slice (some ad) p.length cp) p)(hq:Rd w vq q)(hn:G.jM q=(n:Int))(hnp:n<p.length)(hps:p.length<=1073741824):
 Calls prog 298 #[.slice (some ad) p.length cp,vq] w λe w'=>∃g1 c1 g2 c2,e=.returned (.tuple #[.slice (some ⟨g1,0,none⟩) (G.divide p q).1.length c1,.slice (some ⟨g2,0,none⟩) p.length c2])/\
  Rd w' (.slice (some ⟨g1,0,none⟩) (G.divide p q).1.length c1) (G.divide p q).1/\Rd w' (.slice (some ⟨g2,0,none⟩) p.length c2) (G.divide p q).2/\(G.divide p q).2.length=p.length/\Below w.heap.size w w':=by
 have hdq:=acu q;have hnq:n<q.length:=by omega
 have amd:=aji hn;have hq0:=hq;obtain⟨hql,⟨a,cap,rfl,rfl⟩|⟨bq,oq,cq,rfl,apm,hqc⟩⟩:=hq.cases
 ·simp at hnq
 have HQ:=zH hqc;clear hqc;have hcn:=HQ.out n hnq;have hbq:bq<w.heap.size:=zc w _ hcn;have Hn0:=zH amd;clear amd;have Hdq:=zH hn;obtain⟨m,hm⟩:∃m:Nat,p.length=n+m:=⟨p.length-n,by omega⟩;have hm1:(p.length:Int)-n=m:=by omega
 have hm0:¬ ((m:Int)<1):=by omega
 have hdd:G.divide p q=G.dQ q n (G.inv (G.ix q n)) (G.jM p+1-n).toNat (List.replicate m 0,p):=by unfold G.divide;rw[hn];simp only[Yw];rw[show(max ((p.length:Int)-(n:Int)) 1).toNat=m by omega]
 obtain⟨D,hD⟩:∃D,D=G.divide p q:=⟨_,rfl⟩;rw[<-hD];rw[hdd]at hD;have hDl:=tH q n (G.inv (G.ix q n)) (G.jM p+1-n).toNat (List.replicate m 0,p);rw[<-hD]at hDl;simp only[Yq]at hDl;obtain⟨hD1,hD2⟩:=hDl;rw[hD1];have HD:=zH hD;clear hD hdd;have HD1:=zH hD1;clear hD1;have HD2:=zH hD2;clear hD2;have Hm:=zH hm;clear hm;go_enter func298,ntmps298;go_wp2_with fail;refine(wI _ q _ hq).mono ?_;rintro e w' ⟨rfl,rfl⟩;rw[hn];clear hn hdq;go_wp2_with fail;refine(Wj _ (G.ix q n) _ rfl Hn0.out).mono ?_;rintro e w1 ⟨rfl,hb1⟩;obtain⟨iv,hiv⟩:∃iv,iv=G.inv (G.ix q n):=⟨_,rfl⟩;rw[<-hiv];have Hiv:=zH hiv;clear hiv;have hp1:=hp.keep hb1;have Cm:=hb1.size;go_wp2_with fail;refine(OW ad cp p _ hp1).mono ?_;rintro e w2 ⟨v2,rfl,ho2,hb2⟩;obtain⟨g,cap,rfl,hg1,hg2,hcap⟩:=FI ho2 (by
  rintro rfl;rcases ho2.2 with ⟨_,h⟩|⟨_,_,_,h,_⟩
  ·have:=Hm.out;omega
  ·simp at h)
 have hr2:=Row.cells ho2;have hB2:=hb1.trans (hb2.mono Cm);have ajA:=hB2.size;clear ho2 hb2;go_wp2_with (refine fM (base:=w.heap.size) rfl _ _ rfl underlying366 infoU8 m rfl rfl rfl rfl (by omega) ajA ?_;intro w3 hown3 lG;have hb3:Below w.heap.size w w3:=hB2.grown lG ajA (by simp);have hr3:Row w3 5 g cap p:=hr2.keep (lG.block g hg2 (by simp));have ho3:=Row.cells hown3);have aai:=hr3.rd (by omega);refine(wI _ p _ aai).mono ?_;rintro e w' ⟨rfl,rfl⟩;have hdp:=acu p;have hng:¬ g=w2.heap.size:=by omega
 have hwg:w.heap.size<=g:=by omega
 clear hr2 hB2 hown3 lG aai hp hp1 hb1;go_wp2_with fail
 go_loopw [11] (λvk wr=>∃(i:Int)(S1 S2:List UInt8),vk=.int .i64 i/\ -1<=i/\i<p.length/\Hid (G.dQ q n iv (i+1-n).toNat (S1,S2)=D)/\Hid (S1.length=m)/\Hid (S2.length=p.length)/\Row wr 5 w2.heap.size m S1/\Row wr 5 g cap S2/\Below w.heap.size w wr) (λvk _=>(RowKit.intOf vk+1).toNat)
 case atStart=>exact⟨G.jM p,_,_,rfl,hdp.1,hdp.2,zH (by rw[HD.out,Hiv.out]),zH (by simp),zH rfl,ho3,hr3,hb3⟩
 case round=>
  clear ho3 hr3 hb3 hg2;obtain⟨i,S1,S2,rfl,hi1,hi2,HL,G9,HS2,ho,hr,hb⟩:=hrel;obtain⟨wo,rfl⟩:∃wo:World,wo=wr:=⟨_,rfl⟩;by_cases hlt:(n:Int)<=i
  ·obtain⟨c,hc⟩:∃c:Nat,i=((n+c:Nat):Int):=⟨(i-n).toNat,by omega⟩;subst hc;have hsub:(((n+c:Nat):Int))-(n:Int)=c:=by omega
   obtain⟨t,ht⟩:∃t:Nat,t=n+c:=⟨_,rfl⟩;rw[<-ht]at hsub hi1 hi2 HL hlt ⊢;have htp:t<p.length:=by omega
   have hcm:c<m:=by have:=Hm.out;omega
   have hS2:=HS2.out;have hcr:=hr.cell t (by omega);have hS1:=G9.out;have hfo:=ho.frozen c hcm;obtain⟨f,hf⟩:∃f,f=G.mul (G.ix S2 t) iv:=⟨_,rfl⟩;have amk:=ho.store c f (by omega);have hcell1:wo.cell? ⟨w2.heap.size,c,none⟩=some (B (G.ix S1 c)):=ho.cell c (by omega);have hr':Row (wo.setCell ⟨w2.heap.size,c,none⟩ (B f)) 5 g cap S2:=hr.other (by simpa using hng) _;have hb':Below w.heap.size w (wo.setCell ⟨w2.heap.size,c,none⟩ (B f)):=hb.setCell ajA _;clear hS1 hS2;have Ht:=zH ht;clear ht;have HLd:=zH hlt;clear hlt;have hn1:((n:Int)+1)=((n+1:Nat):Int):=by omega
   obtain⟨n1,hn1'⟩:∃n1,n1=n+1:=⟨_,rfl⟩;rw[<-hn1']at hn1;have Hn1:=zH hn1';clear hn1';have Hf:=zH hf;clear hf;go_wp2_with (go_at_call 324;refine(iZ _ _ (G.ix S2 t) iv _ rfl rfl).mono ?_;rintro e w' ⟨rfl,rfl⟩;rw[<-Hf.out]);clear hcr hcell1 hfo ho hr hb
   go_loopw [53] (λvj wr=>∃j:Nat,j<=n1/\vj=.int .i64 j/\Row wr 5 w2.heap.size m (S1.set c f)/\Row wr 5 g cap (G.addRow c f q j S2)/\Below w.heap.size w wr) (λvj _=>n1-(RowKit.intOf vj).toNat)
   case atStart=>exact⟨0,by omega,rfl,amk,hr',hb'⟩
   case round=>
    clear amk hr' hb';obtain⟨j,hj,rfl,ho,hr,hb⟩:=hrel;obtain⟨r,hr0⟩:∃r,r=G.addRow c f q j S2:=⟨_,rfl⟩;rw[<-hr0]at hr;have hrl:r.length=p.length:=by rw[hr0,G.bI,HS2.out]
    have Hr:=zH hr0;clear hr0;by_cases hlj:j<n1
    ·have hjq:j<q.length:=by have:=Hn1.out;omega
     have ao5:c+j<p.length:=by have:=Hn1.out;have:=Ht.out;omega
     have hcq:wr.cell? ⟨bq,oq+j,none⟩=some (B (G.ix q j)):=by rw[hb.cell hbq];exact HQ.out j hjq
     have hco:wr.cell? ⟨g,c+j,none⟩=some (B (G.ix r (c+j))):=hr.cell _ (by omega);have hfo:=hr.frozen (c+j) (by omega);have Hst:Hid (Row (wr.drew.setCell ⟨g,c+j,none⟩ (B (G.ix r (c+j)^^^G.mul f (G.ix q j)))) 5 g cap (r.set (c+j) (G.ix r (c+j)^^^G.mul f (G.ix q j)))):=zH (hr.drew.store (c+j) _ (by omega));have Hot:Hid (Row (wr.drew.setCell ⟨g,c+j,none⟩ (B (G.ix r (c+j)^^^G.mul f (G.ix q j)))) 5 w2.heap.size m (S1.set c f)):=zH (ho.drew.other (by simpa using λe=>hng e.symm) _);have Hrl:=zH hrl;clear hrl;go_wp2_with fail;have e1:IntKind.i64.wrap ((c:Int)+(j:Int))=(c:Int)+(j:Int):=IntWalk.i64_in _ (by omega);have e2:(0:Int)<=(c:Int)+(j:Int):=by omega
     have e3:(c:Int)+(j:Int)<(p.length:Int):=by omega
     have e4:((c:Int)+(j:Int)).toNat=c+j:=by omega
     have e5:IntKind.i64.wrap (c:Int)=(c:Int):=IntWalk.i64_in _ (by omega);go_still_tail 16,(by kernel_rfl)
     still_call (Jn (iZ _ _ f (G.ix q j) _ rfl rfl))
     repeat still_step
     refine wpStill_nil ?_;clear e1 e2 e3 e4 e5;change wpList _ _ _ _ _ wr.drew;go_wp2_with fail;go_roundw;case rel=>
      rw[GH];refine⟨j+1,by omega,by go_num,Hot.out,?_,(hb.drew).setCell hwg _⟩;have h:=Hst.out;rw[G.addRow,<-Hr.out];exact h
     case measure=>simp[RowKit.intOf];omega
    ·have Hrl:=zH hrl;clear hrl;go_wp2_with fail;go_roundw;case rel=>
      obtain rfl:j=n1:=by omega
      refine⟨(t:Int)-1,S1.set c f,r,rfl,by omega,by omega,zH ?_,zH (by rw[Yu,G9.out]),Hrl,ho,hr,hb⟩;rw[<-HL.out];have h1:=Ht.out;rw[show((t:Int)+1-(n:Int)).toNat=c+1 by omega,show((t:Int)-1+1-(n:Int)).toNat=c by omega,G.dQ,<-h1];unfold G.kX;simp only;rw[show t-n=c by omega,<-Hf.out,<-Hn1.out,<-Hr.out]
     case measure=>simp[RowKit.intOf]
  ·go_wp2_with fail;go_ret2;have hDS:(S1,S2)=D:=by rw[<-HL.out,show(i+1-(n:Int)).toNat=0 by omega];rfl
   rw[<-hDS];have h1:=G9.out;have h2:=HS2.out;refine⟨_,_,_,_,rfl,?_,?_,h2,hb⟩
   ·have:=ho.rd (by omega);rwa[h1]at this
   ·have:=hr.rd (by omega);rwa[h2]at this
end
section
open Go.RowKit Go.Shelf
attribute [local go_sem] Oper.semAt_some
def KB(n b:Nat)(W W':World):Prop:=Below n W W'/\W'.heap[b]? = W.heap[b]?
theorem KB.refl(n b:Nat)(W:World):KB n b W W:=⟨zB _ _,rfl⟩
theorem KB.trans{n b:Nat}{A B C:World}(h:KB n b A B)(h':KB n b B C):KB n b A C:=⟨h.1.trans h'.1,h'.2.trans h.2⟩
theorem KB.cell{n b:Nat}{W W':World}(h:KB n b W W'):W'.cell? ⟨b,0,none⟩=W.cell? ⟨b,0,none⟩:=by simp[World.cell?,h.2]
def back(n k:Nat):List Nat:=(List.range k).map λj=>n-1-j
theorem OD(n k:Nat):(back n k).length=k:=by simp[back]
theorem Zz(n m k:Nat)(h:m+1+k=n):back n (k+1)=back n k++[m]:=by simp[back,Xf,show n-1-k=m by omega]
theorem ZA(n k:Nat)(h:k<=n):back n k <+:back n n:=by
 unfold back;refine⟨(List.range' k (n-k)).map λj=>n-1-j,?_⟩;rw[<-List.map_append]
 congr 1
 have e:=List.range'_append_1 (s:=0) (m:=k) (n:=n-k);rw[Yf]at e;rw[List.range_eq_range',List.range_eq_range',e,show k+(n-k)=n by omega]
theorem ab6(p:List UInt8):(back p.length p.length).map (G.ix p)=p.reverse:=by
 apply Xt
 ·simp[back]
 ·intro i h1 h2;have hi:i<p.length:=by simpa using h2
  simp[back,G.ix,(by omega:p.length-1-i<p.length)]
theorem ab5(F:Fence)(n:Nat)(h7:F.fn 411)(hro:F.round=none)(hn:1<=n)(l Bs n₀:Nat)(v:Value)(p:List UInt8)(w0:World)(hv:Rd w0 v p)(h0n:w0.heap.size<=n₀)(J Jx:List Nat->World->Prop)
 (hY:∀(pre:List Nat)(x:Nat) W,J pre W->pre.length<p.length->YieldAt F (n-1) prog l #[.int .i64 (x:Int),B (G.ix p x)] W λe W'=>
  (e=.returned (.bool true)/\J (pre++[x]) W'/\KB n₀ Bs W W')\/(e=.returned (.bool false)/\Jx (pre++[x]) W'))
 (W:World)(hW:∀k,k<w0.heap.size->W.heap[k]? = w0.heap[k]?)(hBs:W.cell? ⟨Bs,0,none⟩=some v)(h0:J [] W):
 CallsIn F n prog 411 #[.func (.yield l) #[] #[],.pointer (some ⟨Bs,0,none⟩)] W λe W'=>(∃v,e=.returned v)/\
  ((∃ys,ys=back p.length p.length/\J ys W')\/(∃pre,pre <+:back p.length p.length/\Jx pre W')):=by
 obtain⟨hl,a,cap,b,off,rfl,hcap,hcell⟩:=hv;have HC:=zH hcell;clear hcell;refine callsIn_of_wp func411 rfl h7 ?_ hro;simp only[ntmps411,Xh,Yn,YC,Nat.reduceAdd,Nat.reduceSub,Xi,Xj,Xv,Xn,YV,Xr];gi_wp2
 gi_loopw [3] (λi wr=>∃m k:Nat,m+k=p.length/\i=.int .i64 ((m:Int)-1)/\J (back p.length k) wr/\KB n₀ Bs W wr)
  (λi _=>(RowKit.intOf i+1).toNat)
 case atStart=>exact⟨p.length,0,by omega,rfl,h0,KB.refl _ _ _⟩
 case round=>
  obtain⟨m,k,hk,rfl,hJs,hnx⟩:=hrel;have ao2:wr.cell? ⟨Bs,0,none⟩=some (.slice a p.length cap):=hnx.cell.trans hBs;by_cases hm:m=0
  ·subst hm;gi_wp2;go_end0;obtain rfl:k=p.length:=by omega
   exact⟨⟨_,rfl⟩,.inl ⟨_,rfl,hJs⟩⟩
  ·obtain⟨t,rfl⟩:∃t,m=t+1:=⟨m-1,by omega⟩;have hk1:((t+1:Nat):Int)-1=t:=by omega
   simp only[hk1];obtain⟨ha,hcp⟩:=HC.out t (by omega);have hcw:wr.cell? ⟨b,off+t,none⟩=some (B (G.ix p t)):=by rw[hnx.1.cell (p:=⟨b,off+t,none⟩) (by have:=zc w0 _ hcp;simp at this ⊢;omega)];have e:W.heap[b]? = w0.heap[b]?:=hW b (by have:=zc w0 _ hcp;simpa using this);rw[<-hcp];simp[World.cell?,e]
   have htl:t<p.length:=by omega
   have hix:=bJ (P:=prog) underlying366 sizeU8 (cap:=cap) ha htl _ rfl wr;have Ha:=zH ha;clear ha hcp;obtain⟨fn,tmps,assign,body,hy,hR⟩:=hY _ t wr hJs (by rw[OD];omega);have HE:=zH (Zz p.length t k hk);gi_wp2;refine hR.mono ?_;rintro e W3 (⟨rfl,hJ3,hk3⟩|⟨rfl,hJx3⟩)
   ·gi_wp2;go_roundw;case rel=>exact⟨t,k+1,by omega,by simp,by rw[HE.out];exact hJ3,hnx.trans hk3⟩
    case measure=>simp[RowKit.intOf]
   ·gi_wp2;refine zr (results_none rfl _ _ _) rfl ?_;exact⟨⟨_,rfl⟩,.inr ⟨_,by rw[<-HE.out];exact ZA _ _ (by omega),hJx3⟩⟩
theorem afE(F:Fence)(n:Nat)(h5:F.fn 395)(hro:F.round=none)(v:Value)(w:World)(hv:∃a l c,v=.slice a l c):
 CallsIn F n prog 395 #[v] w λe w'=>e=.returned (.func (.func 411) #[] #[.pointer (some ⟨w.heap.size,0,none⟩)])/\w'=w.alloc (.cells #[v] 366):=by
 obtain⟨a,l,c,rfl⟩:=hv;refine callsIn_of_wp func395 rfl h5 ?_ hro;simp only[ntmps395,Xh,Yn,YC,Nat.reduceAdd,Nat.reduceSub,Xi,Xj,Xv,Xn,YV,Xr];gi_wp2;go_ret;exact⟨rfl,rfl⟩
theorem Sz(F:Fence)(n:Nat)(h7:F.fn 411)(hro:F.round=none)(hn:1<=n)(Bs n₀:Nat)(v:Value)(p:List UInt8)(w0 w:World)(hv:Rd w0 v p)(h0n:w0.heap.size<=n₀)(hw:∀k,k<w0.heap.size->w.heap[k]? = w0.heap[k]?)(hBs:Bs<w.heap.size)(hn₀:n₀<=w.heap.size)
 (hc:w.cell? ⟨Bs,0,none⟩=some v):
 SeqStopsK F n prog 411 #[.pointer (some ⟨Bs,0,none⟩)] (λx:Nat=>#[Value.int .i64 (x:Int),B (G.ix p x)]) (KB n₀ Bs) (λys=>ys=back p.length p.length) (λpre=>pre <+:back p.length p.length) p.length w:=λl J Jx W hW _ _ hY h0=>by
 have hc':=(hW.cell (p:=⟨Bs,0,none⟩) hBs).trans hc;exact ab5 F n h7 hro hn l Bs n₀ v p w0 hv h0n J Jx hY W (λk hk=>(hW.block k (by omega)).trans (hw k hk)) hc' h0
theorem Sr(vp:Value)(x:Int)(p:List UInt8)(c:UInt8)(w:World)(hx:x=c.toNat)(hp:Rd w vp p):
 Calls prog 364 #[vp,.int .u8 x] w λe w'=>e=.returned (B (G.val p c))/\Below w.heap.size w w':=by
 subst hx;obtain⟨a,cap,rfl⟩:=hp.form;refine(callsIn_wide (n:=3)).1 ?_;refine callsIn_of_wp_marks func364 rfl trivial ?_ rfl;simp only[ntmps364,Xh,Yn,YC,Nat.reduceAdd,Nat.reduceSub,Xi,Xj,Xv,Xn,YV,Xr]
 gi_wp2_with (refine⟨trivial,?_⟩;gi_at_call 395;refine(afE Fence.wide 2 trivial rfl _ _ ⟨_,_,_,rfl⟩).mono ?_;rintro e w' ⟨rfl,rfl⟩)
 have bX:=Boxed.new w 5 (B c);have bS:=Boxed.new (w.alloc (.cells #[B c] 5)) 5 (.int .u8 0);have bN:=Boxed.new ((w.alloc (.cells #[B c] 5)).alloc (.cells #[.int .u8 0] 5)) 366 (.slice a p.length cap);simp only[Yl]at bS bN;have hB0:Below w.heap.size w (((w.alloc (.cells #[B c] 5)).alloc (.cells #[.int .u8 0] 5)).alloc (.cells #[.slice a p.length cap] 366)):=(((zB _ w).alloc (zl _) _).alloc (by simp) _).alloc (by simp;omega) _;have bX':=(bX.alloc (.cells #[.int .u8 0] 5)).alloc (.cells #[.slice a p.length cap] 366);have bS':=bS.alloc (.cells #[.slice a p.length cap] 366);have hpl:=hp.1;refine wpIn_rangeFunc_ownG rfl (by omega) (gf:=411) (lb:=#[.pointer (some ⟨w.heap.size+1+1,0,none⟩)]) rfl trivial (enters_of func411 (by kernel_rfl) rfl)
  (Sz Fence.wide 2 trivial rfl (by omega) (w.heap.size+1+1) w.heap.size _ p w _ hp (zl _) (λk hk=>hB0.block k hk) (by simp) (by simp;omega) bN.cell) KB.trans (λW l o o' hl ho hoc how=>⟨belowK_b (by simp;omega) W l o o' hl ho hoc how,World.putObj_heap_other (by simp at hl;omega)⟩) (zB _ _) (λ_=>rfl)
  (λpre W=>(W.cell? ⟨w.heap.size,0,none⟩=some (B c)/\W.cell? ⟨w.heap.size+1,0,none⟩=some (B (G.lY c 0 (pre.map (G.ix p))))/\W.frozen? ⟨w.heap.size+1,0,none⟩=false)/\Below w.heap.size w W)
  (λ_ _ _=>False)
  (OwnFrom.and (Own.from (λs A B row hs hg hr=>⟨cell_kept hs.1 hg hr,cell_kept hs.2.1 hg hr,(frozen_kept hs.2.1 hg hr).trans hs.2.2⟩) _) (ownFrom_below (zl _) (by simp;omega)))
  (λ_ _ _ _ _ hs _ _=>hs)
  ⟨⟨bX'.cell,bS'.cell,bS'.frozen⟩,hB0⟩
  (λx=>{tmps:=#[.slice a p.length cap,B c,undef,.pointer (some ⟨w.heap.size,0,none⟩),.int .u8 0,.pointer (some ⟨w.heap.size+1,0,none⟩),undef,B (G.ix p x),.slice a p.length cap,.func (.func 411) #[] #[.pointer (some ⟨w.heap.size+1+1,0,none⟩)],.int .i64 x,B (G.ix p x),undef,undef,undef,undef,undef,undef],defers:=[]}) ?assign ?body ?done ?stop
 case assign=>
  intro l x W K hK;gi_wp2;exact hK
 case body=>
  rintro l pre x W ⟨⟨hc,hcs,hf⟩,hB⟩ _;obtain⟨s,hs⟩:∃s,s=G.lY c 0 (pre.map (G.ix p)):=⟨_,rfl⟩;rw[<-hs]at hcs;have Hs:=zH hs;clear hs
  gi_wp2_with (refine⟨trivial,?_⟩;gi_at_call 324;refine(CallsIn.inRound l (callsIn_wide.2 (iZ _ _ s c _ rfl rfl))).mono ?_;rintro e w' ⟨rfl,rfl⟩)
  rw[GH];exact⟨(KeepsOthers.setCell _ _ _).from _,⟨(zB w.heap.size W).setCell (p:=⟨w.heap.size+1,0,none⟩) (by simp) _,zh _ _ _ _ (by simp)⟩,
   ⟨⟨(World.cell?_setCell_other W ⟨w.heap.size+1,0,none⟩ ⟨w.heap.size,0,none⟩ _ (by simp)).trans hc,by rw[List.map_append,List.map_singleton,Ew,<-Hs.out];exact World.cell?_setCell_same' _ _ _ (by rw[hcs];rfl),by rw[World.frozen?_setCell];exact hf⟩,hB.setCell (p:=⟨w.heap.size+1,0,none⟩) (by simp) _⟩⟩
 case done=>
  rintro D ys W hD rfl ⟨⟨_,hc,_⟩,hB⟩ hK;gi_wp2;refine⟨by simp,.inl ⟨_,_,rfl,run_takeDeferred hK,?_⟩⟩;rw[ab6];exact⟨_,results_tmp rfl _ _ _,rfl,hB.trans (belowK_b (w:=w) (zl _) W D _ _ (by simp at hD;omega) hK rfl rfl)⟩
 case stop=>
  rintro D c pre W _ _ h _;exact h.elim
end
section
open Go.RowKit
theorem sizeInt:(prog.info? 3).map (·.size)=some 1:=by kernel_rfl
def lu(w:World)(v:Value)(l:List Int):Prop:=
 l.length<=17592186044416/\(∃a cap b off,v=.slice a l.length cap/\l.length<=cap/\∀i,i<l.length->a=some ⟨b,off,none⟩/\w.cell? ⟨b,off+i,none⟩=some (.int .i64 (aI l i)))/\∀i,i<l.length-> -9223372036854775808<=aI l i/\aI l i<=9223372036854775807
theorem lu.keepW{w w':World}{v:Value}{l:List Int}(h:lu w v l)(hb:∀k,k<w.heap.size->w'.heap[k]? = w.heap[k]?):lu w' v l:=by obtain⟨h0,⟨a,cap,b,off,e,hc,hcell⟩,hr⟩:=h;refine⟨h0,⟨a,cap,b,off,e,hc,λi hi=>⟨(hcell i hi).1,?_⟩⟩,hr⟩;have h2:=(hcell i hi).2;have h3:=zc w _ h2;rw[<-h2];simp[World.cell?,hb b (by simpa using h3)]
theorem lu.keep{w w':World}{v:Value}{l:List Int}(h:lu w v l)(hb:Below w.heap.size w w'):lu w' v l:=h.keepW hb.block
theorem BF(s:ByteArray)(n:Nat)(x:Int)(i:Nat)(w:World)(hx:x=i)(hs:s.size=n)(hi:i<n)(hn:n<=255):
 Calls prog 393 #[.string s,.int .i64 x] w λe w'=>e=.returned (B (G.exp (n-1-i)))/\w=w':=by
 subst hx;obtain⟨m,hm⟩:∃m:Nat,m=n-1-i:=⟨_,rfl⟩;have hm':(n:Int)-1-i=m:=by omega
 rw[<-hm];have hm2:m<255:=by omega
 clear hm;go_enter func393,ntmps393;go_wp2_with fail;refine(TM _ (m:Int) _ (by omega) (by omega) (by omega)).mono ?_;rintro e w1 ⟨rfl,rfl⟩;have hE:(Gf.exp (ex (m:Int)):Nat)=(G.exp m).toNat:=by rw[G.kV];congr 1;unfold ex;omega
 rw[hE];go_wp2_with fail;go_ret;exact⟨rfl,rfl⟩
theorem qX(s:ByteArray)(n:Nat)(ve:Value)(l:List Int)(w:World)(hs:s.size=n)(hn:n<=255)(hv:lu w ve l)(hl:l.length<=1073741824):
 Calls prog 359 #[.string s,ve] w λe w'=>(G.lL n l=false/\e=.returned (.tuple #[.slice none 0 0,.bool false])/\Below w.heap.size w w')\/
  (G.lL n l=true/\∃v,e=.returned (.tuple #[v,.bool true])/\Rd w' v (G.dY n l l.length)/\Below w.heap.size w w'):=by
 obtain⟨h0,⟨a,cap,b,off,rfl,hcap,hcell⟩,Ul⟩:=hv;have HC:=zH hcell;clear hcell;have HR:=zH Ul;clear Ul;go_enter func359,ntmps359;go_wp2_with fail;have h1:(w.alloc (.cells #[B 1] 5)).ownsRow w.heap.size 5 1 (.slice (some ⟨w.heap.size,0,none⟩) 1 1) 1 (bs [1]):=Xc w #[B 1] 1 (zl _) (by simp[maxLen]) (by simp);have hr1:Rd (w.alloc (.cells #[B 1] 5)) (.slice (some ⟨w.heap.size,0,none⟩) 1 1) (G.dY n l 0):=Rd.nU h1 (by simp);have hb1:Below w.heap.size w (w.alloc (.cells #[B 1] 5)):=(zB _ _).alloc (zl _) _;clear h1
 go_loopw [6,12] (λvg vk wr=>∃k:Nat,k<=l.length/\vk=.int .i64 k/\Rd wr vg (G.dY n l k)/\Hid (G.vK n l k=true)/\Below w.heap.size w wr) (λ_ vk _=>l.length-(RowKit.intOf vk).toNat)
 case atStart=>exact⟨0,by omega,rfl,hr1,zH rfl,hb1⟩
 case round=>
  clear hr1 hb1;obtain⟨k,hk,rfl,hr,HP,hb⟩:=hrel;by_cases hlt:k<l.length
  ·obtain⟨ha,hcp⟩:=HC.out k hlt;have hcw:wr.cell? ⟨b,off+k,none⟩=some (.int .i64 (aI l k)):=(hb.cell (p:=⟨b,off+k,none⟩) (zc w _ hcp)).trans hcp;have hix:=bJ (P:=prog) underlying31 sizeInt (cap:=cap) ha hlt _ rfl wr;have Ha:=zH ha;clear ha hcp;obtain⟨x,hx⟩:∃x,x=aI l k:=⟨_,rfl⟩;rw[<-hx]at hcw;have Hx:=zH hx;clear hx;have hxr:=HR.out k hlt;rw[<-Hx.out]at hxr;have hPk:=HP.out;by_cases c1:x<0
   ·have hd1:decide (x<0)=true:=zt c1;have HF:Hid (G.lL n l=false):=zH (by
     rw[YZ];intro h;have:=(G.rH n l hlt h).1;rw[<-Hx.out]at this;omega)
    clear c1;go_wp2_with fail;go_ret2;exact .inl ⟨HF.out,rfl,hb⟩
   by_cases c2:(n:Int)<=x
   ·have hd1:decide (x<0)=false:=zf c1;have hd2:decide ((n:Int)<=x)=true:=zt c2;have HF:Hid (G.lL n l=false):=zH (by
     rw[YZ];intro h;have:=(G.rH n l hlt h).2.1;rw[<-Hx.out]at this;omega)
    clear c1 c2;go_wp2_with fail;go_ret2;exact .inl ⟨HF.out,rfl,hb⟩
   by_cases c0:k=0
   ·subst c0;have hd1:decide (x<0)=false:=zf c1;have hd2:decide ((n:Int)<=x)=false:=zf c2;have hcw0:wr.cell? ⟨b,off,none⟩=some (.int .i64 x):=by simpa using hcw
    clear hcw;have hix0:=bJ (P:=prog) underlying31 sizeInt (cap:=cap) Ha.out hlt 0 rfl wr;have HT:Hid (G.vK n l (0+1)=true):=zH (by
     rw[G.vK,HP.out,<-Hx.out,hd1,hd2];rfl)
    obtain⟨t,ht⟩:∃t:Nat,x=(t:Int):=⟨x.toNat,by omega⟩;have hxn:t<n:=by omega
    have Ht:=zH ht;clear ht;have hbs:=hb.size;go_wp2_with fail;refine(BF s n _ t _ Ht.out hs hxn hn).mono ?_;rintro e w1 ⟨rfl,rfl⟩;go_wp2_with fail;have ho2:(wr.alloc (.cells #[B 1,B (G.exp (n-1-t))] 5)).ownsRow w.heap.size 5 1 (.slice (some ⟨wr.heap.size,0,none⟩) 2 2) [1,G.exp (n-1-t)].length (bs [1,G.exp (n-1-t)]):=Xc wr #[B 1,B (G.exp (n-1-t))] 2 hbs (by simp[maxLen]) (by simp);have hb2:Below w.heap.size w (wr.alloc (.cells #[B 1,B (G.exp (n-1-t))] 5)):=hb.alloc hbs _;refine(times_any _ _ (G.dY n l 0) [1,G.exp (n-1-t)] _ (hr.keep ((zB _ _).alloc (zl _) _)) (Rd.bg ho2 (by simp))).mono ?_;rintro e w2 ⟨v,rfl,ho3,hb3⟩;have hb4:=hb2.trans (hb3.mono hb2.size);have hpe:G.prod (G.dY n l 0) [1,G.exp (n-1-t)]=G.dY n l (0+1):=by rw[show G.dY n l (0+1)=G.prod (G.dY n l 0) [1,G.exp (n-1-(aI l 0).toNat)] from rfl,<-Hx.out,Ht.out,Yw]
    rw[hpe]at ho3;have hr3:=Rd.bg ho3 (by rw[G.gW];omega);clear ho3 hb3 ho2 hb2 hpe;go_wp2_with fail;go_roundw;case rel=>exact⟨0+1,by omega,by go_num,hr3,HT,hb4⟩
    case measure=>simp[RowKit.intOf];omega
   obtain⟨j,rfl⟩:∃j,k=j+1:=⟨k-1,by omega⟩;have hjl:j<l.length:=by omega
   obtain⟨ha,hcp⟩:=HC.out j hjl;have hcy:wr.cell? ⟨b,off+j,none⟩=some (.int .i64 (aI l j)):=(hb.cell (p:=⟨b,off+j,none⟩) (zc w _ hcp)).trans hcp;have hiy:=bJ (P:=prog) underlying31 sizeInt (cap:=cap) ha hjl _ rfl wr;clear ha hcp;obtain⟨y,hy⟩:∃y,y=aI l j:=⟨_,rfl⟩;rw[<-hy]at hcy;have Hy:=zH hy;clear hy;have hjk:(j:Int)+1-1=j:=by omega
   have hj0:decide (0<((j:Int)+1))=true:=by rw[Yj];omega
   have hix1:=bJ (P:=prog) underlying31 sizeInt (cap:=cap) Ha.out hlt ((j:Int)+1) (by omega) wr;by_cases c3:x<=y
   ·have hd1:decide (x<0)=false:=zf c1;have hd2:decide ((n:Int)<=x)=false:=zf c2;have hd3:decide (x<=y)=true:=zt c3;have HF:Hid (G.lL n l=false):=zH (by
     rw[YZ];intro h;have:=(G.rH n l hlt h).2.2 (by omega);rw[<-Hx.out,show j+1-1=j by omega,<-Hy.out]at this;omega)
    clear c1 c2 c3;go_wp2_with fail;go_ret2;exact .inl ⟨HF.out,rfl,hb⟩
   ·have hd1:decide (x<0)=false:=zf c1;have hd2:decide ((n:Int)<=x)=false:=zf c2;have hd3:decide (x<=y)=false:=zf c3;have HT:Hid (G.vK n l (j+1+1)=true):=zH (by
     rw[G.vK,HP.out,<-Hx.out,show j+1-1=j by omega,<-Hy.out,hd1,hd2,hd3];simp)
    obtain⟨t,ht⟩:∃t:Nat,x=(t:Int):=⟨x.toNat,by omega⟩;have hxn:t<n:=by omega
    have Ht:=zH ht;clear ht;have hbs:=hb.size;go_wp2_with fail;refine(BF s n _ t _ Ht.out hs hxn hn).mono ?_;rintro e w1 ⟨rfl,rfl⟩;go_wp2_with fail;have ho2:(wr.alloc (.cells #[B 1,B (G.exp (n-1-t))] 5)).ownsRow w.heap.size 5 1 (.slice (some ⟨wr.heap.size,0,none⟩) 2 2) [1,G.exp (n-1-t)].length (bs [1,G.exp (n-1-t)]):=Xc wr #[B 1,B (G.exp (n-1-t))] 2 hbs (by simp[maxLen]) (by simp);have hb2:Below w.heap.size w (wr.alloc (.cells #[B 1,B (G.exp (n-1-t))] 5)):=hb.alloc hbs _;refine(times_any _ _ (G.dY n l (j+1)) [1,G.exp (n-1-t)] _ (hr.keep ((zB _ _).alloc (zl _) _)) (Rd.bg ho2 (by simp))).mono ?_;rintro e w2 ⟨v,rfl,ho3,hb3⟩;have hb4:=hb2.trans (hb3.mono hb2.size);have hpe:G.prod (G.dY n l (j+1)) [1,G.exp (n-1-t)]=G.dY n l ((j+1)+1):=by rw[show G.dY n l ((j+1)+1)=G.prod (G.dY n l (j+1)) [1,G.exp (n-1-(aI l (j+1)).toNat)] from rfl,<-Hx.out,Ht.out,Yw]
    rw[hpe]at ho3;have hr3:=Rd.bg ho3 (by rw[G.gW];omega);clear ho3 hb3 ho2 hb2 hpe;go_wp2_with fail;go_roundw;case rel=>exact⟨(j+1)+1,by omega,by go_num,hr3,HT,hb4⟩
    case measure=>simp[RowKit.intOf];omega
  ·obtain rfl:k=l.length:=by omega
   have HP':Hid (G.lL n l=true):=HP;go_wp2_with fail;go_ret2;exact .inr ⟨HP'.out,_,rfl,hr,hb⟩
theorem Rd.takeN{w:World}{a:Addr}{m n cap:Nat}{l:List UInt8}(h:Rd w (.slice (some a) (n+m) cap) l)(hl:l.length=n+m)(hn:n<=cap):Rd w (.slice (some a) n cap) (l.take n):=by
 obtain⟨h0,a',cap',b,off,e,hc,hcell⟩:=h;have hT:(l.take n).length=n:=by rw[Yk];omega
 simp only[YT]at e;obtain⟨e1,e2,e3⟩:=e;refine⟨by omega,some a,cap,b,off,by rw[hT],by rw[hT];exact hn,λi hi=>?_⟩;rw[hT]at hi;obtain⟨h1,h2⟩:=hcell i (by omega);exact⟨e1.trans h1,by rw[uS hi];exact h2⟩
theorem abp(p:List UInt8)(n:Int)(ve:Value)(w:World)(hl:p.length<=9223372036854775807)(h:G.cO p n=false)(hv:∃a l c,ve=.slice a l c):
 Calls prog 295 #[.string (str p),.int .i64 n,ve] w λe w'=>e=.returned (.tuple #[.slice none 0 0,.slice none 0 0,.int .i64 1])/\w=w':=by
 have H:=zH h;clear h;obtain⟨a,l,c,rfl⟩:=hv;go_enter func295,ntmps295;go_wp2_with fail;refine(vV p n _ hl H.out).mono ?_;rintro e w' ⟨rfl,rfl⟩;go_wp2_with fail
 go_ret3
 exact⟨rfl,rfl⟩
theorem abq(p:List UInt8)(n:Nat)(ve:Value)(l:List Int)(w:World)(h:G.cO p n=true)(hv:lu w ve l)(hl:l.length<=1073741824)(hp:G.lL p.length l=false):
 Calls prog 295 #[.string (str p),.int .i64 n,ve] w λe w'=>e=.returned (.tuple #[.slice none 0 0,.slice none 0 0,.int .i64 1])/\Below w.heap.size w w':=by
 obtain⟨h1,h2,h3,h4,h5⟩:=(G.bU p n).1 h;have H:=zH h;clear h;have HP:=zH hp;clear hp;have hv0:=hv;obtain⟨_,⟨a,c,_,_,rfl,_,_⟩,_⟩:=hv;go_enter func295,ntmps295;go_wp2_with fail;refine(mQ p n _ H.out).mono ?_;rintro e w1 ⟨vs,rfl,ho,hb⟩;go_wp2_with fail;refine(qX (str p) p.length _ l _ (au p) h2 (hv0.keep hb) hl).mono ?_;rintro e w2 (⟨_,rfl,hb2⟩|⟨hq,_⟩)
 ·have hB:=hb.trans (hb2.mono hb.size);go_wp2_with fail
  go_ret3
  exact⟨rfl,hB⟩
 ·rw[HP.out]at hq;cases hq
theorem Vl(p:List UInt8)(n:Nat)(ve:Value)(l:List Int)(w:World)(h:G.cO p n=true)(hv:lu w ve l)(hl:n<l.length)(hl2:l.length<=1073741824)(hp:G.lL p.length l=true):
 Calls prog 295 #[.string (str p),.int .i64 n,ve] w λe w'=>e=.returned (.tuple #[.slice none 0 0,.slice none 0 0,.int .i64 11])/\Below w.heap.size w w':=by
 obtain⟨h1,h2,h3,h4,h5⟩:=(G.bU p n).1 h;have H:=zH h;clear h;have HP:=zH hp;clear hp;have hv0:=hv;obtain⟨_,⟨a,c,_,_,rfl,_,_⟩,_⟩:=hv;have hd:decide ((n:Int)<(l.length:Int))=true:=by rw[Yj];omega
 go_enter func295,ntmps295;go_wp2_with fail;refine(mQ p n _ H.out).mono ?_;rintro e w1 ⟨vs,rfl,ho,hb⟩;go_wp2_with fail;refine(qX (str p) p.length _ l _ (au p) h2 (hv0.keep hb) hl2).mono ?_;rintro e w2 (⟨hq,_⟩|⟨_,vg,rfl,hrg,hb2⟩)
 ·rw[HP.out]at hq;cases hq
 ·have hB:=hb.trans (hb2.mono hb.size);go_wp2_with fail
  go_ret3
  exact⟨rfl,hB⟩
theorem ahc{w:World}{base e n:Nat}{v:Value}{xs:List Value}(h:w.ownsRow base e 1 v n xs)(hn:0<n):∃g cap,v=.slice (some ⟨g,0,none⟩) n cap/\base<=g/\g<w.heap.size/\n<=cap:=
 FI h (by
  rintro rfl;rcases h.2 with ⟨_,h⟩|⟨_,_,_,h,_⟩
  ·omega
  ·simp at h)
theorem Q9(p:List UInt8)(n:Nat)(ve:Value)(l:List Int)(w:World)(h:G.cO p n=true)(hv:lu w ve l)(hl:l.length<=n)(hp:G.lL p.length l=true):
 Calls prog 295 #[.string (str p),.int .i64 n,ve] w λe w'=>∃vg ad cap,e=.returned (.tuple #[vg,.slice (some ad) n cap,.int .i64 0])/\
  Rd w' vg (G.dY p.length l l.length)/\Rd w' (.slice (some ad) n cap) (G.xi p n l)/\Below w.heap.size w w':=by
 obtain⟨h1,h2,h3,h4,h5⟩:=(G.bU p n).1 h;have H:=zH h;clear h;have HP:=zH hp;clear hp;have hv0:=hv;obtain⟨_,⟨a,c,_,_,rfl,_,_⟩,_⟩:=hv;have hd:decide ((n:Int)<(l.length:Int))=false:=by rw[Yv];omega
 go_enter func295,ntmps295;go_wp2_with fail;refine(mQ p n _ H.out).mono ?_;rintro e w1 ⟨vs,rfl,ho,hb⟩;go_wp2_with fail;refine(qX (str p) p.length _ l _ (au p) h2 (hv0.keep hb) (by omega)).mono ?_;rintro e w2 (⟨hq,_⟩|⟨_,vg,rfl,hrg,hb2⟩)
 ·rw[HP.out]at hq;cases hq
 ·have hB:=hb.trans (hb2.mono hb.size);have hrs:Rd w2 vs (G.dP p n):=(Rd.nU ho (by omega)).keep hb2;clear ho hb hb2;have hpl:(G.prod (G.dP p n) (G.dY p.length l l.length)).length=n+l.length:=by have e1:=G.dC p n;have e2:=G.gW p.length l l.length;rw[G.gJ _ _ (by intro e;rw[e]at e1;simp at e1;omega) (by intro e;rw[e]at e2;simp at e2),e1,e2];omega
  have G8:=zH hpl;clear hpl;have hBd:Below w.heap.size w w2.drew:=hB.drew;have aoz:Rd w2.drew vs (G.dP p n):=hrs.keepW (λk hk=>rfl);have amg:Rd w2.drew vg (G.dY p.length l l.length):=hrg.keepW (λk hk=>rfl);have hBs:=hBd.size;have h00:¬ (n:Int)<0:=by omega
  go_wp2_with fail;have VD:Hid (Calls prog 300 #[vs,vg] w2.drew λe w'=>∃g cap,e=.returned (.slice (some ⟨g,0,none⟩) (n+l.length) cap)/\n<=cap/\Rd w' vg (G.dY p.length l l.length)/\Rd w' (.slice (some ⟨g,0,none⟩) (n+l.length) cap) (G.prod (G.dP p n) (G.dY p.length l l.length))/\Below w.heap.size w w'):=zH (by
   refine(times_any _ _ (G.dP p n) (G.dY p.length l l.length) _ aoz amg).mono ?_;rintro e w3 ⟨v3,rfl,ho3,hb3⟩;have hr3:=Rd.nU ho3 (by rw[G8.out];omega);rw[G8.out]at ho3;obtain⟨g,cap,rfl,hg1,hg2,hcap⟩:=ahc ho3 (by omega);exact⟨g,cap,rfl,by omega,amg.keep hb3,hr3,hBd.trans (hb3.mono hBs)⟩)
  go_region_with (go_at_call 300;refine VD.out.mono ?_;rintro e w3 ⟨g,cap,rfl,hncap,hrg3,hr3,hB3⟩)
  go_wp2_with fail
  go_ret3
  exact⟨_,_,_,rfl,hrg3,hr3.takeN G8.out hncap,hB3⟩
end
namespace W8
open Go.RowKit
def is(l:List Int):List Value:=l.map (Value.int .i64)
theorem uP(l m:List Int):is (l++m)=is l++is m:=by simp[is]
theorem qx(l:List Int):(is l).length=l.length:=by simp[is]
theorem adv(l:List Int):∀u∈is l,u.oneCell'=true:=by intro u hu;simp only[is,YW]at hu;obtain⟨c,_,rfl⟩:=hu;rfl
theorem wL{l:List Int}{i:Nat}(h:i<l.length):(is l)[i]? = some (.int .i64 (aI l i)):=by simp[is,aI,h]
theorem bT{l:List Int}{i:Nat}(h:i<l.length):aI l i=l[i]:=by simp[aI,h]
theorem di{l:List Int}{i:Nat}(h:i<l.length):aI l i∈l:=by rw[bT h];exact List.getElem_mem h
theorem lh{w:World}{base e n:Nat}{v:Value}{l:List Int}(h:w.ownsRow base e 1 v n (is l))(hn:l.length=n)(hl:n<=17592186044416)(hr:∀x∈l,-9223372036854775808<=x/\x<=9223372036854775807):lu w v l:=by
 subst hn;refine⟨hl,?_,λi hi=>hr _ (di hi)⟩;rcases h.2 with ⟨rfl,h0⟩|⟨g,cap,cur,rfl,hg,hh,hn,hm,hcs,ht⟩
 ·rw[h0];exact⟨none,0,0,0,rfl,by omega,λi hi=>by omega⟩
 ·refine⟨_,cap,g,0,rfl,hn,λi hi=>⟨rfl,?_⟩⟩;rw[Yf,h.cellAt i (by omega),wL hi]
theorem lu.reads{w:World}{v:Value}{l:List Int}(h:lu w v l):Reads w 1 v l.length (is l):=by
 obtain⟨h0,⟨a,c,b,off,rfl,hc,hcell⟩,hr⟩:=h;refine⟨by simp[qx],a,c,b,off,rfl,hc,λi u hu=>?_⟩;have hi:i<l.length:=by have:=(Yr.1 hu).1;rwa[qx]at this
 rw[wL hi]at hu;obtain rfl:=zs hu;exact hcell i hi
theorem qJ(W:World)(l:List Int)(e:TypeId)(hl:l≠[]):Reads (W.alloc (.cells (is l).toArray e)) 1 (.slice (some ⟨W.heap.size,0,none⟩) l.length l.length) l.length (is l):=by refine⟨by simp[qx],_,_,W.heap.size,0,rfl,zl _,λi u hu=>⟨rfl,?_⟩⟩;rw[Xd _ _ _ _ _ _ (Xl W _),Yf];simpa using hu
theorem jH{P:Program}{ops:Array Oper}{rest:List Oper}{o:Oper}{a:Act}{Q:Exit->Act->World->Prop}{w:World}(hg:o.guard=none)(s x:Operand){t:TypeId}
 (hop:o.op=.call {callee:=.builtin .append,args:=#[s,x],argTypes:=#[t,t]}){e:TypeId}{base:Nat}
 (ht:P.underlying t=some (.slice e))(h2:(P.info? e).map (λi=>(i.zero,i.size,i.bytes))=some (some (.int .i64 0),1,8))
 {v:Value}{n:Nat}{l:List Int}(hown:w.ownsRow base e 1 v n (is l))(hv:a.eval s=v){vs:Value}{m:List Int}(hs:Reads w 1 vs m.length (is m))(hx:a.eval x=vs)
 (h63:n+m.length<=1073741824)(hbase:base<=w.heap.size)
 (hK:∀v' w',w'.ownsRow base e 1 v' (n+m.length) (is (l++m))->w.grownBy w' v.ownBlock->wpList P ops Q rest (a.put o.dst v') w'):wpList P ops Q (o::rest) a w:=by
 obtain⟨i0,hi,hz0,hz1,hz2⟩:=info_parts h2;refine oH hg s x hop ht hi hz0 hz1 hz2 rfl (by omega) hown hv hs hx (adv _) (by unfold maxLen;omega) (by omega) hbase λv' w' g1 g2 g3=>?_
 rw[<-uP]at g1;exact hK v' w' g1 g2
theorem ja{w w':World}{base e size n:Nat}{v:Value}{xs:List Value}(h:w.ownsRow base e size v n xs)(hb:Below w.heap.size w w'):w'.ownsRow base e size v n xs:=by
 refine⟨h.1,?_⟩;rcases h.2 with h2|⟨g,cap,cur,h1,h2,h3,h4⟩
 ·exact .inl h2
 ·exact .inr ⟨g,cap,cur,h1,h2,(hb.block g (Yd.1 h3).1).trans h3,h4⟩
theorem dW{w:World}{base e size n:Nat}{v:Value}{xs:List Value}(h:w.ownsRow base e size v n xs):∀k,v.ownBlock=some k->base<=k:=by
 intro k hk;rcases h.2 with ⟨rfl,_⟩|⟨g,cap,cur,rfl,h2,_⟩
 ·simp[Value.ownBlock]at hk
 ·simp only[Value.ownBlock,YA]at hk;omega
theorem ownsRow_nil(w:World)(base e:Nat):w.ownsRow base e 1 (.slice none 0 0) 0 (is []):=⟨rfl,.inl ⟨rfl,rfl⟩⟩
def pf(m i:Nat):Int:=12+2*((m:Int)/2+43*i)+m%2
def qf(m i:Nat):Int:=12+2*((44*i+43*((m:Int)/2))%1118)+m%2
def pl(m k:Nat):List Int:=(List.range k).map (pf m)
def ql(m k:Nat):List Int:=(List.range k).map (qf m)
def pw(m:Nat):List Int:=pl m 26
def qw(m:Nat):List Int:=ql m 43++[12+2*(1118+(m:Int)/2)+m%2,12+2*(1144+(m:Int)/2)+m%2]
theorem ahg(m k:Nat):pl m (k+1)=pl m k++[pf m k]:=by simp[pl,Xf]
theorem ahs(m k:Nat):ql m (k+1)=ql m k++[qf m k]:=by simp[ql,Xf]
theorem aaH(m k:Nat):(pl m k).length=k:=by simp[pl]
theorem uX(m k:Nat):(ql m k).length=k:=by simp[ql]
theorem JG(m:Nat):(pw m).length=26:=aaH _ _
theorem JI(m:Nat):(qw m).length=45:=by simp[qw,uX]
theorem amI{m i:Nat}(hm:m<86)(hi:i<26):12<=pf m i/\pf m i<2248:=by unfold pf;omega
theorem QT{m i:Nat}(hm:m<52):12<=qf m i/\qf m i<2248:=by unfold qf;omega
theorem amJ{m:Nat}(hm:m<86):∀x∈pw m,12<=x/\x<2352:=by intro x hx;simp only[pw,pl,YW,Yx]at hx;obtain⟨i,hi,rfl⟩:=hx;have:=amI hm hi;omega
theorem amL{m:Nat}(hm:m<52):∀x∈qw m,12<=x/\x<2352:=by
 intro x hx;simp only[qw,ql,YX,YW,Yx,XW,List.not_mem_nil,or_false]at hx;rcases hx with ⟨i,hi,rfl⟩|rfl|rfl
 ·have:=QT (i:=i) hm;omega
 ·omega
 ·omega
def wd(k:Nat):List Int:=if k<86 then pw k else qw (k-86)
theorem Rw{k:Nat}(hk:k<138):∀x∈wd k,12<=x/\x<2352:=by
 unfold wd;split
 ·exact amJ ‹_›
 ·exact amL (by omega)
theorem dR(k:Nat):(wd k).length=if k<86 then 26 else 45:=by
 unfold wd;split
 ·exact JG _
 ·exact JI _
end W8
namespace C9
open Go.RowKit W8
theorem sizeBool9:(prog.info? 4).map (·.size)=some 1:=by kernel_rfl
theorem infoBool9:(prog.info? 4).map (λi=>(i.zero,i.size,i.bytes))=some (some (.bool false),1,1):=by kernel_rfl
theorem sizeSc:(prog.info? 78).map (·.size)=some 2:=by kernel_rfl
theorem sizeInt9:(prog.info? 3).map (·.size)=some 1:=by kernel_rfl
theorem infoInt9:(prog.info? 3).map (λi=>(i.zero,i.size,i.bytes))=some (some (.int .i64 0),1,8):=by kernel_rfl
def RV(v:Value)(w:World)(e:Ending)(w':World):Prop:=e=.returned v/\Below w.heap.size w w'
def scz:Sc:=⟨0,0⟩
def scc(s:Sc):List Value:=[.int .i64 s.f,.int .i64 s.c]
theorem yZ(s:Sc):(scc s).length=2:=rfl
def Q3(l:List Sc)(i:Nat):Sc:=aJ scz l i
def Wf(s:Sc):Prop:=(-9223372036854775808<=s.f/\s.f<=9223372036854775807)/\(-9223372036854775808<=s.c/\s.c<=9223372036854775807)
def xH(w:World)(v:Value)(l:List Sc):Prop:=dB scz scc 2 w v l
theorem rd2{w:World}{b o:Nat}{x:Sc}(h:w.rangeAt b o (scc x)):w.cell? ⟨b,o,none⟩=some (.int .i64 x.f)/\w.cell? ⟨b,o+1,none⟩=some (.int .i64 x.c):=⟨h 0 _ rfl,h 1 _ rfl⟩
def frN(d:Int):Int:=if d<1\/401408<d then 0 else d+108
theorem wJ(d:Int)(w:World):Calls prog 94 #[.int .i64 d] w λe w'=>e=.returned (.int .i64 (frN d))/\w=w':=by
 unfold frN;by_cases h1:d<1
 ·rw[zj (.inl h1)];go_enter func94,ntmps94;go_wp2;go_ret;exact⟨rfl,rfl⟩
 by_cases h2:401408<d
 ·rw[zj (.inr h2)];go_enter func94,ntmps94;go_wp2;go_ret;exact⟨rfl,rfl⟩
 rw[zi (by omega)];go_enter func94,ntmps94;go_wp2;go_ret;exact⟨rfl,rfl⟩
theorem fits_any(f c:Int)(n:Nat)(w:World)(hs:Wf ⟨f,c⟩)(hn:n<=1000000000):
 Calls prog 174 #[.agg #[.int .i64 f,.int .i64 c],.int .i64 n] w (RV (.bool (jJ n ⟨f,c⟩)) w):=by
 obtain⟨⟨f1,f2⟩,c1,c2⟩:=hs;have hb:=(zB w.heap.size w).alloc (zl _) (.cells #[.int .i64 f,.int .i64 c] 78);simp only at f1 f2 c1 c2;have no:∀(h:¬ (0<=f/\1<=c/\c<=(n:Int)/\f<=(n:Int)-c)),jJ n ⟨f,c⟩=false:=λh=>by rw[YZ];intro h2;exact h ((tV n ⟨f,c⟩).1 h2)
 by_cases h1:0<=f
 ·by_cases h2:1<=c
  ·by_cases h3:c<=(n:Int)
   ·by_cases h4:f<=(n:Int)-c
    ·rw[(tV n ⟨f,c⟩).2 ⟨h1,h2,h3,h4⟩];clear no;go_enter func174,ntmps174;go_wp2;go_ret;exact⟨rfl,hb⟩
    ·rw[no (by omega)];clear no;go_enter func174,ntmps174;go_wp2;go_ret;exact⟨rfl,hb⟩
   ·rw[no (by omega)];clear no;go_enter func174,ntmps174;go_wp2;go_ret;exact⟨rfl,hb⟩
  ·rw[no (by omega)];clear no;go_enter func174,ntmps174;go_wp2;go_ret;exact⟨rfl,hb⟩
 ·rw[no (by omega)];clear no;go_enter func174,ntmps174;go_wp2;go_ret;exact⟨rfl,hb⟩
end C9
end Go.Proofs.YtfnehkmhcmkhjaaGreat
