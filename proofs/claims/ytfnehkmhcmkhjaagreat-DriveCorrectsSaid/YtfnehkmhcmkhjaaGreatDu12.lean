/- Parts -/
import Derived.Test.YtfnehkmhcmkhjaaGreatDu08
import Derived.Test.YtfnehkmhcmkhjaaGreatDu07
set_option maxRecDepth 100000
set_option maxHeartbeats 8000000
set_option linter.unusedVariables false
namespace Go.Proofs.YtfnehkmhcmkhjaaGreat
open Tryz
section
open Go.RowKit
theorem PK(x:Int)(a:UInt8)(w:World)(hx:x=a.toNat):
 Calls prog 323 #[.int .u8 x] w λe w'=>∃k:Int,e=.returned (.tuple #[B (G.inv a),.int .i64 k])/\Below w.heap.size w w':=by
 subst hx;refine(Wx a.toNat w (G.lt a)).mono λe w' ⟨h1,h2⟩=>⟨if a.toNat=0 then 1 else 0,?_,h2⟩
 rw[h1,invV,B,G.vw]
def Ci(b:Nat)(w:World)(v:Value)(l:List UInt8):Prop:=
 l.length<=140737488351232/\∃a cap bb off,v=.slice a l.length cap/\l.length<=cap/\∀i,i<l.length->a=some ⟨bb,off,none⟩/\bb≠b/\w.cell? ⟨bb,off+i,none⟩=some (B (G.ix l i))
theorem Ci.rd{b:Nat}{w:World}{v:Value}{l:List UInt8}(h:Ci b w v l):Rd w v l:=by obtain⟨h0,a,c,bb,off,e,hc,h⟩:=h;exact⟨h0,a,c,bb,off,e,hc,λi hi=>⟨(h i hi).1,(h i hi).2.2⟩⟩
theorem Ci.keepW{b:Nat}{w w':World}{v:Value}{l:List UInt8}(h:Ci b w v l)(hb:∀k,k<w.heap.size->k≠b->w'.heap[k]? = w.heap[k]?):Ci b w' v l:=by obtain⟨h0,a,c,bb,off,e,hc,h⟩:=h;refine⟨h0,a,c,bb,off,e,hc,λi hi=>⟨(h i hi).1,(h i hi).2.1,?_⟩⟩;have e:=(h i hi).2.2;rw[<-e];exact XC (hb bb (zc w _ e) (h i hi).2.1)
theorem Ci.keep{b:Nat}{w w':World}{v:Value}{l:List UInt8}(h:Ci b w v l)(hb:Below w.heap.size w w'):Ci b w' v l:=h.keepW λk hk _=>hb.block k hk
theorem Ci.drew{b:Nat}{w:World}{v:Value}{l:List UInt8}(h:Ci b w v l):Ci b w.drew v l:=h.keepW λk hk _=>rfl
theorem Ci.set{b o:Nat}{w:World}{v u:Value}{l:List UInt8}(h:Ci b w v l):Ci b (w.setCell ⟨b,o,none⟩ u) v l:=h.keepW λk hk hne=>zh _ _ _ _ hne
theorem Rd.x{b:Nat}{w:World}{v:Value}{l:List UInt8}(h:Rd w v l)(hb:w.heap.size<=b):Ci b w v l:=by obtain⟨h0,a,c,bb,off,e,hc,h⟩:=h;refine⟨h0,a,c,bb,off,e,hc,λi hi=>⟨(h i hi).1,?_,(h i hi).2⟩⟩;have:=zc w _ (h i hi).2;simp at this;omega
theorem Ci.bg{b:Nat}{w:World}{base e n:Nat}{v:Value}{l:List UInt8}(h:w.ownsRow base e 1 v n (bs l))(hn:l.length=n)(hb:b<base)(hl:l.length<=140737488351232):Ci b w v l:=by
 subst hn;refine⟨hl,?_⟩;rcases h.2 with ⟨rfl,h0⟩|⟨g,cap,cur,rfl,hg,hh,hn,hm,hcs,ht⟩
 ·rw[h0];exact⟨none,0,0,0,rfl,by omega,λi hi=>by omega⟩
 ·refine⟨_,cap,g,0,rfl,hn,λi hi=>⟨rfl,by omega,?_⟩⟩;rw[Yf,h.cellAt i (by omega),jh hi]
theorem ajz(a b:UInt8)(w:World):
 Calls prog 324 #[B a,B b] w λe w'=>e=.returned (B (G.mul a b))/\w=w':=iZ _ _ a b w rfl rfl
theorem U5(p uV om:List UInt8)(vp vo:Value)(w:World)(hpl:p.length<=255)(hp:Rd w vp uV)(ho:Rd w vo om)(hp1:1<=uV.length):
 Calls prog 301 #[.string (str p),vp,vo] w λe w'=>e=.returned (.string (str (G.repair p uV om)))/\Below w.heap.size w w':=by
 have hs:=au p;obtain⟨pa,pc,rfl⟩:=hp.form;obtain⟨oa,oc,rfl⟩:=ho.form;have apl:=hp.1;obtain⟨n,hn⟩:∃n,n=p.length:=⟨_,rfl⟩;rw[<-hn]at hpl hs;have HN:=zH hn;clear hn;have hsz:(str p).data.toList=p:=rfl;have HZ:=zH hsz;clear hsz;go_enter func301,ntmps301;go_wp2_with (refine gZ rfl _ rfl underlying9 underlying65 underlying5 rfl ?_;intro w2 cap hr2 hb2 hcap;have hp2:=(hp.x (zl _)).keepW (λk hk _=>hb2.block k hk);have ho2:=(ho.x (zl _)).keepW (λk hk _=>hb2.block k hk));rw[HZ.out]at hr2;have hw2:w.heap.size<w2.heap.size:=hr2.lt;refine(Eh _ uV _ hp2.rd hp1).mono ?_;rintro e w3 ⟨vd,rfl,hod,hb3⟩;have hd3:Ci w.heap.size w3 vd (G.fC uV):=Ci.bg hod (qV _) hw2 (by rw[qV];omega);have hp3:=hp2.keep hb3;have ho3:=ho2.keep hb3;have hr3:=hr2.below hb3;have hB3:=hb2.trans (hb3.mono hb2.size);clear hod hb3 hp2 ho2 hr2;go_wp2_with fail;refine(PK _ 2 _ rfl).mono ?_;rintro e w4 ⟨k2,rfl,hb4⟩;have hd4:=hd3.keep hb4;have hp4:=hp3.keep hb4;have ho4:=ho3.keep hb4;have hr4:=hr3.below hb4;have hB4:=hB3.trans (hb4.mono hB3.size);clear hd3 hp3 ho3 hr3 hB3 hb4;obtain⟨half,ac8⟩:∃half,half=G.inv 2:=⟨_,rfl⟩;rw[<-ac8];have HH:=zH ac8;clear ac8;obtain⟨dl,da,dc,rfl⟩:∃dl da dc,vd=.slice da dl dc:=by obtain⟨a,c,rfl⟩:=hd4.rd.form;exact⟨_,_,_,rfl⟩
 have hwg:w.heap.size<=w.heap.size:=zl _;go_wp2_with fail
 go_loopw [11,12,13] (λvx vy vi wr=>∃(m j:Nat)(R:List UInt8),m+j=n/\vx=B (G.exp j)/\vy=B (G.hp j)/\vi=.int .i64 ((m:Int)-1)/\Row wr 5 w.heap.size cap R/\Hid (R.length=n)/\Hid (∀i,i<n->G.ix R i=if i<m then G.ix p i else G.ix p i^^^G.TR uV om (n-1-i))/\
  Ci w.heap.size wr (.slice pa uV.length pc) uV/\Ci w.heap.size wr (.slice oa om.length oc) om/\Ci w.heap.size wr (.slice da dl dc) (G.fC uV)/\Below w.heap.size w wr) (λ_ _ vi _=>(RowKit.intOf vi+1).toNat)
 case atStart=>exact⟨n,0,p,by omega,by rw[G.qi];rfl,rfl,rfl,hr4,zH HN.out.symm,zH (λi hi=>by rw[zj hi]),hp4,ho4,hd4,hB4⟩
 case round=>
  clear hr4 hp4 ho4 hd4 hB4 hp ho hb2;obtain⟨m,j,R,hmj,rfl,rfl,rfl,hr,HL,HI,hp,ho,hd,hb⟩:=hrel;by_cases h0m:m=0
  ·subst h0m;obtain⟨l',hl'⟩:∃l',l'=n:=⟨_,rfl⟩;have hrd:Rd wr (.slice (some ⟨w.heap.size,0,none⟩) n cap) R:=by have:=hr.rd (by rw[HL.out];omega);rwa[HL.out]at this
   have hcx:=eX (P:=prog) underlying65 underlying5 underlying9 hrd;clear hl';go_wp2_with fail;go_ret;have e:R=G.repair p uV om:=by
    apply G.jR
    ·rw[HL.out,G.jq,HN.out]
    ·intro i hi;rw[HL.out]at hi;rw[HI.out i hi,zi (by omega),G.Jr p uV om i (by rw[<-HN.out];exact hi),HN.out]
   rw[<-e];exact⟨rfl,hb⟩
  ·obtain⟨k,rfl⟩:∃k,m=k+1:=⟨m-1,by omega⟩;have hk1:((k+1:Nat):Int)-1=k:=by omega
   simp only[hk1];have hkn:k<n:=by omega
   have HJ:Hid (n-1-k=j):=zH (by omega);have hRk:=HI.out k hkn;rw[zj (by omega)]at hRk;have HRk:=zH hRk;clear hRk;obtain⟨X,hX⟩:∃X,X=G.exp j:=⟨_,rfl⟩;obtain⟨Y,hY⟩:∃Y,Y=G.hp j:=⟨_,rfl⟩;rw[<-hX,<-hY];have HX:Hid (G.mul X 2=G.exp (j+1)):=zH (by rw[hX,G.gX,G.Lu]);have HY:Hid (G.mul Y half=G.hp (j+1)):=zH (by rw[hY,HH.out];rfl);have HXj:=zH hX;clear hX;have HYj:=zH hY;clear hY;go_wp2_with fail;refine(Sr _ _ uV Y _ rfl hp.rd).mono ?_;rintro e w5 ⟨rfl,hb5⟩;have hp5:=hp.keep hb5;have ho5:=ho.keep hb5;have hd5:=hd.keep hb5;have EP:=hr.below hb5;have Bv:=hb.trans (hb5.mono hb.size);clear hp ho hd hr hb hb5;obtain⟨V,hV⟩:∃V,V=G.val uV Y:=⟨_,rfl⟩;rw[<-hV];have HV:=zH hV;clear hV;by_cases hz:V=0
   ·have hzb:((V.toNat:Int) == 0)=true:=by rw[hz];rfl
    have Hz:=zH hz;clear hz;go_wp2_with fail;refine(Sr _ _ _ Y _ rfl hd5.rd).mono ?_;rintro e w6 ⟨rfl,hb6⟩;have hp6:=hp5.keep hb6;have BC:=ho5.keep hb6;have hd6:=hd5.keep hb6;have ER:=EP.below hb6;have Oc:=Bv.trans (hb6.mono Bv.size);clear hp5 ho5 hd5 EP Bv hb6;obtain⟨S,hS⟩:∃S,S=G.val (G.fC uV) Y:=⟨_,rfl⟩;rw[<-hS];have HS:=zH hS;clear hS;go_wp2_with fail;refine(PK _ S _ rfl).mono ?_;rintro e w7 ⟨kd,rfl,hb7⟩;have hp7:=hp6.keep hb7;have ho7:=BC.keep hb7;have hd7:=hd6.keep hb7;have hr7:=ER.below hb7;have hB7:=Oc.trans (hb7.mono Oc.size);clear hp6 BC hd6 ER Oc hb7;obtain⟨d,hdv⟩:∃d,d=G.inv S:=⟨_,rfl⟩;rw[<-hdv];have HD:=zH hdv;clear hdv;go_wp2_with fail;have hod:=ho7.drew;have hpd:=hp7.drew;have hdd:=hd7.drew;have hL:=HL.out;have hcd:=hr7.drew.cell k (by omega);have aoU:k<n:=hkn;obtain⟨O,hO⟩:∃O,O=G.val om Y:=⟨_,rfl⟩;have HO:=zH hO;clear hO hL;have VD:Hid (Calls prog 364 #[.slice oa om.length oc,B Y] w7.drew λe w'=>e=.returned (B O)/\w'.cell? ⟨w.heap.size,k,none⟩=some (B (G.ix R k))/\w'.frozen? ⟨w.heap.size,k,none⟩=false/\
     Row w' 5 w.heap.size cap R/\Ci w.heap.size w' (.slice pa uV.length pc) uV/\Ci w.heap.size w' (.slice oa om.length oc) om/\Ci w.heap.size w' (.slice da dl dc) (G.fC uV)/\Below w.heap.size w w'):=zH (by
     refine(Sr _ _ om Y _ rfl hod.rd).mono ?_;rintro e w8 ⟨rfl,hb8⟩;rw[<-HO.out];have Uj:=hr7.drew.below hb8;have hL:=HL.out;exact⟨rfl,Uj.cell k (by omega),Uj.frozen k (by have:=Uj.le;omega),Uj,hpd.keep hb8,hod.keep hb8,hdd.keep hb8,hB7.drew.trans (hb8.mono hB7.drew.size)⟩)
    rw[HRk.out]at hcd;rw[HRk.out]at VD;clear hr7 hp7 ho7 hd7
    go_region_with (first|(go_at_call 364;refine VD.out.mono ?_;rintro e w8 ⟨rfl,hc8,hf8,Uj,hp8,ho8,hd8,hB8⟩)|(go_at_call 324;(with_reducible refine(ajz _ _ _).mono ?_);rintro e w' ⟨rfl,rfl⟩))
    all_goals
     rw[GH];have hL:=HL.out;have hr9:=Uj.store k (G.ix p k^^^G.mul X (G.mul O d)) (by omega);have hp9:=hp8.set (o:=k) (u:=B (G.ix p k^^^G.mul X (G.mul O d)));have Oe:=ho8.set (o:=k) (u:=B (G.ix p k^^^G.mul X (G.mul O d)));have hd9:=hd8.set (o:=k) (u:=B (G.ix p k^^^G.mul X (G.mul O d)));have BA:=hB8.setCell (p:=⟨w.heap.size,k,none⟩) hwg (B (G.ix p k^^^G.mul X (G.mul O d)));clear Uj hp8 ho8 hd8 hB8 hc8 hf8 hcd hL;generalize w8.setCell ⟨w.heap.size,k,none⟩ (B (G.ix p k^^^G.mul X (G.mul O d)))=w9 at hr9 hp9 Oe hd9 BA ⊢;go_wp2_with fail;refine(iZ _ _ X 2 _ rfl rfl).mono ?_;rintro e w' ⟨rfl,rfl⟩;rw[HX.out];go_wp2_with fail;refine(iZ _ _ Y half _ rfl rfl).mono ?_;rintro e w' ⟨rfl,rfl⟩;rw[HY.out];go_wp2_with fail;go_roundw;case rel=>
      refine⟨k,j+1,R.set k (G.ix p k^^^G.mul X (G.mul O d)),by omega,rfl,rfl,rfl,hr9,zH (by rw[Yu,HL.out]),zH λi hi=>?_,hp9,Oe,hd9,BA⟩;have hL:=HL.out;by_cases e:i=k
      ·subst e;rw[BD _ _ (by omega),zi (by omega),HJ.out];unfold G.TR;rw[<-HYj.out,<-HXj.out,zj (by rw[<-HV.out];exact Hz.out),HO.out,HD.out,HS.out]
      ·have:=HI.out i hi;rw[uQ _ _ e,this];have e2:(i<k+1)↔(i<k):=by omega
       simp only[e2]
     case measure=>simp[RowKit.intOf]
   ·have hzb:((V.toNat:Int) == 0)=false:=by rw[Ad];simpa using hz
    have Hz:=zH hz;clear hz;go_wp2_with fail;refine(iZ _ _ X 2 _ rfl rfl).mono ?_;rintro e w' ⟨rfl,rfl⟩;rw[HX.out];go_wp2_with fail;refine(iZ _ _ Y half _ rfl rfl).mono ?_;rintro e w' ⟨rfl,rfl⟩;rw[HY.out];go_wp2_with fail;go_roundw;case rel=>
     refine⟨k,j+1,R,by omega,rfl,rfl,rfl,EP,HL,zH λi hi=>?_,hp5,ho5,hd5,Bv⟩;rw[HI.out i hi];by_cases e:i=k
     ·subst e;rw[zj (by omega),zi (by omega),HJ.out];unfold G.TR;rw[<-HYj.out,zi (by rw[<-HV.out];exact Hz.out)];simp
     ·have e2:(i<k+1)↔(i<k):=by omega
      simp only[e2]
    case measure=>simp[RowKit.intOf]
theorem di{l:List Int}{i:Nat}(h:i<l.length):aI l i∈l:=by unfold aI;rw[Ya,Ye h];exact List.getElem_mem h
theorem Um(v:Value)(l:List Int)(x:Int)(w:World)(hv:lu w v l):
 Calls prog 396 #[v,.int .i64 x] w λe w'=>∃k:Int,e=.returned (.int .i64 k)/\(0<=k↔G.cont l x=true)/\ -1<=k/\w=w':=by
 obtain⟨h0,⟨a,cap,b,off,rfl,hcap,hcell⟩,Ul⟩:=hv;have HC:=zH hcell;clear hcell;have HR:=zH Ul;clear Ul;go_enter func396,ntmps396;go_wp2_with fail
 go_loop [5,8] (λ_ vk=>∃k:Nat,k<=l.length/\vk=.int .i64 k/\Hid (∀i,i<k->aI l i≠x)) (λ_ vk=>l.length-(RowKit.intOf vk).toNat)
 case atStart=>exact⟨0,by omega,rfl,zH (λi h=>by omega)⟩
 case round=>
  obtain⟨k,hk,rfl,hz⟩:=hrel;by_cases hlt:k<l.length
  ·obtain⟨ha,hcp⟩:=HC.out k hlt;have hix:=bJ (P:=prog) underlying31 sizeInt (cap:=cap) ha hlt _ rfl w;have Ha:=zH ha;clear ha;obtain⟨y,hy⟩:∃y,y=aI l k:=⟨_,rfl⟩;rw[<-hy]at hcp;have Hy:=zH hy;clear hy;by_cases hc:x=y
   ·have hb:(x == y)=true:=by simpa using hc
    have Hc:=zH hc;clear hc;go_wp2_with fail;go_ret;refine⟨_,rfl,⟨λ_=>?_,λ_=>by omega⟩,by omega,rfl⟩;rw[G.xQ,Hc.out,Hy.out];exact di hlt
   ·have hb:(x == y)=false:=by simpa using hc
    have Hc:=zH hc;clear hc;go_wp2_with fail;go_round;case rel=>
     refine⟨k+1,by omega,by go_num,zH λi hi=>?_⟩;by_cases e:i=k
     ·rw[e,<-Hy.out];exact λh=>Hc.out h.symm
     ·exact hz.out i (by omega)
    case measure=>simp[RowKit.intOf];omega
  ·go_wp2_with fail;go_ret;refine⟨_,rfl,⟨λh=>by omega,λh=>?_⟩,by omega,rfl⟩;exfalso;rw[G.xQ]at h;obtain⟨i,hi,e⟩:=YL h;refine hz.out i (by omega) ?_;unfold aI;rw[Ya,Ye hi];exact e
theorem Il(v:Value)(l:List Int)(x:Int)(w:World)(hv:lu w v l):
 Calls prog 365 #[v,.int .i64 x] w λe w'=>e=.returned (.bool (G.cont l x))/\w=w':=by
 go_enter func365,ntmps365;go_wp2_with fail;refine(Um v l x _ hv).mono ?_;rintro e w' ⟨k,rfl,hk,hk1,rfl⟩;have hd:decide (0<=k)=G.cont l x:=by rw[YJ,Yj];exact hk
 clear hk;go_wp2_with fail;go_ret;exact⟨rfl,rfl⟩
theorem oh{P:Program}{t:TypeId}(ht:P.underlying t=some .string)(l:List UInt8)(k:Nat)(hk:k<l.length)(i:Int)(hi:i=k)(w:World):
 (Instr.index t (.string (str l)) (.int .i64 i)).run P w=.ok (B (G.ix l k)) w:=by
 subst hi;have h1:(str l).size=l.length:=au l;have h2:((str l)[k]'(by rw[h1];exact hk))=l[k]:=by simp[str,ByteArray.getElem_eq_getElem_data]
 simp[Instr.index,asIntOf,YH ht,h1,hk,h2,G.ix]
theorem OO(p q:List UInt8)(ve:Value)(l:List Int)(w:World)(hpq:q.length=p.length)(hp:p.length<=255)(hv:lu w ve l):
 Calls prog 302 #[.string (str p),.string (str q),ve] w λe w'=>e=.returned (.tuple #[.int .i64 (G.iF p q p.length),.int .i64 (G.kH p q l p.length)])/\Below w.heap.size w w':=by
 have hs:=au p;obtain⟨n,hn⟩:∃n,n=p.length:=⟨_,rfl⟩;rw[<-hn]at hpq hp hs ⊢;have HN:=zH hn;clear hn;have HQ:=zH hpq;clear hpq;obtain⟨va,vl,vc,rfl⟩:∃a l c,ve=.slice a l c:=by obtain⟨_,⟨a,c,_,_,rfl,_,_⟩,_⟩:=hv;exact⟨_,_,_,rfl⟩
 have hv0:=hv;go_enter func302,ntmps302;go_wp2_with fail
 go_loopw [8,9,10,13] (λva vo _ vk wr=>∃k:Nat,k<=n/\vk=.int .i64 k/\va=.int .i64 (G.iF p q k)/\vo=.int .i64 (G.kH p q l k)/\Below w.heap.size w wr) (λ_ _ _ vk _=>n-(RowKit.intOf vk).toNat)
 case atStart=>exact⟨0,by omega,rfl,rfl,rfl,zB _ _⟩
 case round=>
  obtain⟨k,hk,rfl,rfl,rfl,hb⟩:=hrel;by_cases hlt:k<n
  ·have hv':=hv0.keep (hb:Below w.heap.size w wr);have hi1:=λwx=>oh (P:=prog) underlying9 p k (by rw[<-HN.out];exact hlt) _ rfl wx
   have hi2:=λwx=>oh (P:=prog) underlying9 q k (by rw[HQ.out];exact hlt) _ rfl wx
   have h1:=G.KN p q k;have h2:=G.MO p q l k;obtain⟨A1,hA⟩:∃A1,A1=G.iF p q k:=⟨_,rfl⟩;obtain⟨O1,hO⟩:∃O1,O1=G.kH p q l k:=⟨_,rfl⟩;rw[<-hA]at h1 ⊢;rw[<-hO]at h2 ⊢;have HA:=zH hA;clear hA;have HO:=zH hO;clear hO;by_cases hc:G.ix p k=G.ix q k
   ·have hcb:(((G.ix p k).toNat:Int) == ((G.ix q k).toNat:Int))=true:=by rw[hc];simp
    have Hc:=zH hc;clear hc;go_wp2_with fail;go_quiet (fail);go_wp2_with fail;go_roundw;case rel=>exact⟨k+1,by omega,by go_num,by rw[G.iF,zj Hc.out,HA.out];simp,by rw[G.kH,zj Hc.out,HO.out];simp,Below.drewN hb _⟩
    case measure=>simp[RowKit.intOf];omega
   ·have hcb:(((G.ix p k).toNat:Int) == ((G.ix q k).toNat:Int))=false:=by rw[Yc];intro h;apply hc;apply UInt8.toNat_inj.1;omega
    have Hc:=zH hc;clear hc;go_wp2_with fail;go_quiet (fail);go_wp2_with fail;have hB:=Below.drewN hb nq;have hvn:lu (wr.drewN nq) (.slice va vl vc) l:=hv'.keepW (λk hk=>rfl);generalize wr.drewN nq=w2 at hB hvn ⊢;refine(Il _ l _ _ hvn).mono ?_;rintro e w' ⟨rfl,rfl⟩;cases hct:G.cont l (k:Int) with
    | true=>
      have Ht:=zH hct;clear hct;go_wp2_with fail;go_roundw;case rel=>exact⟨k+1,by omega,by go_num,by rw[G.iF,zi Hc.out,HA.out];go_num,by rw[G.kH,zi Hc.out,HO.out,Ht.out];simp,hB⟩
      case measure=>simp[RowKit.intOf];omega
    | false=>
      have Ht:=zH hct;clear hct;go_wp2_with fail;go_roundw;case rel=>exact⟨k+1,by omega,by go_num,by rw[G.iF,zi Hc.out,HA.out];go_num,by rw[G.kH,zi Hc.out,HO.out,Ht.out];simp,hB⟩
      case measure=>simp[RowKit.intOf];omega
  ·obtain rfl:k=n:=by omega
   go_wp2_with fail;go_ret2;exact⟨rfl,hb⟩
section
variable {P:Program} {Q:Exit->Act->World->Prop}
def alc(P:Program)(Q:Exit->Act->World->Prop)(R:World->World->Prop)(C:World->Prop)(V:Nat->Value->(Nat->Value)->World->Prop)(sk:Nat->Bool)(l:List Oper)(a0:Act)(i:Nat)(o:Oper):Prop:=
 ∀a w,C w->a.tmps.size=a0.tmps.size->(∀t,gp l t=true->a.tmps.getD t undef=a0.tmps.getD t undef)->
   (∀k,(o.after.toList.any λe=>e.on == k && Region.binds .any e)=true->sk k=false->∀(ok:Oper),l[k]? = some ok->V k (gK ok.dst a) (Ae l k a) w)->
   if sk i then Region.wanted o (yielded l.toArray a.tmps)=false
   else Region.wanted o (yielded l.toArray a.tmps)=true/\o.wp P a w (λa' w'=>∃v,a'=a.put o.dst v/\R w w'/\V i (kept o.dst v) (Ae l i a) w') Q
def Si(P:Program)(Q:Exit->Act->World->Prop)(R:World->World->Prop)(C:World->Prop)(V:Nat->Value->(Nat->Value)->World->Prop)(sk:Nat->Bool)(l:List Oper)(a0:Act):Nat->List Oper->Prop:=Steps (alc P Q R C V sk l a0)
theorem ay{R:World->World->Prop}{V:Nat->Value->(Nat->Value)->World->Prop}{d:Nat->Value}{i:Nat}{o:Oper}{a:Act}{w:World}{v:Value}(hr:R w w)(hv:V i (kept o.dst v) d w)(h:∀K:Act->World->Prop,K (a.put o.dst v) w->o.wp P a w K Q):
 o.wp P a w (λa' w'=>∃v,a'=a.put o.dst v/\R w w'/\V i (kept o.dst v) d w') Q:=h _ ⟨v,rfl,hr,hv⟩
theorem rP{R:World->World->Prop}{V:Nat->Value->(Nat->Value)->World->Prop}{d:Nat->Value}{i:Nat}{o:Oper}{a:Act}{w:World}{v:Value}(hr:∀w',Below w.heap.size w w'->R w w')(hv:∀w',V i (kept o.dst v) d w')(h:∀K:Act->World->Prop,(∀w',Below w.heap.size w w'->K (a.put o.dst v) w')->o.wp P a w K Q):
 o.wp P a w (λa' w'=>∃v,a'=a.put o.dst v/\R w w'/\V i (kept o.dst v) d w') Q:=h _ λw' hb=>⟨v,rfl,hr w' hb,hv w'⟩
theorem dA{R:World->World->Prop}{V:Nat->Value->(Nat->Value)->World->Prop}{d:Nat->Value}{i:Nat}{o:Oper}{a:Act}{w w':World}{v:Value}(hr:R w w')(hv:V i (kept o.dst v) d w')(h:∀K:Act->World->Prop,K (a.put o.dst v) w'->o.wp P a w K Q):
 o.wp P a w (λa' w'=>∃v,a'=a.put o.dst v/\R w w'/\V i (kept o.dst v) d w') Q:=h _ ⟨v,rfl,hr,hv⟩
theorem aeT{l:List Oper}{a0:Act}{w:World}(R:World->World->Prop)(C:World->Prop)(V:Nat->Value->(Nat->Value)->World->Prop)(sk:Nat->Bool)(hf:kJ l a0.tmps.size=true)
 (hC:∀w w',R w w'->C w->C w')(hV:∀i v d w w',R w w'->V i v d w->V i v d w')(h0:C w.drew)
 (hstep:Si P Q R C V sk l a0 0 l)
 (hend:∀a w,C w->a.defers=a0.defers->a.tmps.size=a0.tmps.size->(∀t,gp l t=true->a.tmps.getD t undef=a0.tmps.getD t undef)->
  (∀(i:Nat)(o:Oper),l[i]? = some o->sk i=false->V i (gK o.dst a) (Ae l i a) w)->Q .normal a w):wpAny P .any l.toArray Q l.toArray.size (Array.replicate l.toArray.size false) a0 w.drew:=
 Gg (λ_=>R) (λ_ _=>C) V sk (λ_=>none) 0 hf (wH l sk) (.inr rfl) (λ_ _ _ _ _ _ _ _ _ h=>h) (λi _ v d w w' _=>hV i v d w w') h0 (λi o ho _ a w hc hs hold ah _ _ _ _=>zu (hstep.at ho a w hc hs hold ah) (Oper.wp_mono λa' w' ⟨v,e,hr,hv⟩=>⟨v,e,hr,hC _ _ hr hc,hv⟩)) hend
theorem fO{id:Nat}{l:List Oper}{a0:Act}{w:World}(hm:P.follows .mixedOrders=true)(R:World->World->Prop)(C:World->Prop)(V:Nat->Value->(Nat->Value)->World->Prop)(sk:Nat->Bool)(hf:kJ l a0.tmps.size=true)
 (hC:∀w w',R w w'->C w->C w')(hV:∀i v d w w',R w w'->V i v d w->V i v d w')(h0:C w.drew)
 (hstep:Si P Q R C V sk l a0 0 l)
 (hend:∀a w,C w->a.defers=a0.defers->a.tmps.size=a0.tmps.size->(∀t,gp l t=true->a.tmps.getD t undef=a0.tmps.getD t undef)->
  (∀(i:Nat)(o:Oper),l[i]? = some o->sk i=false->V i (gK o.dst a) (Ae l i a) w)->Q .normal a w):(Code.region id l.toArray true).wp P Q a0 w:=wp_region_any hm (aeT R C V sk hf hC hV h0 hstep hend)
end
section
variable {B:Nat} {t:TypeId} {cs0:List Value} {w W:World}
theorem QP:∀(vs pre:List Value)(cs:List Value),cs.length=vs.length->UU (pre++cs) pre.length vs=pre++vs
 | [],pre,cs,h=>by have:cs = []:=XR.1 h;subst this;rfl
 |v::r,pre,[],h=>by simp at h
 | v :: r,pre,c :: cs,h=>by
   have e:(pre++c::cs).set pre.length v=(pre++[v])++cs:=by rw[List.set_append_right _ _ (zl _),Nat.sub_self];simp
   rw[UU,e,show pre.length+1=(pre++[v]).length by simp,QP r (pre++[v]) cs (by simpa using h)];simp
theorem aho{cs vs:List Value}(h:cs.length=vs.length):UU cs 0 vs=vs:=QP vs [] cs h
def nC(B:Nat)(t:TypeId)(cs0:List Value)(w W:World):Prop:=
 Below B w W/\(∀g,(∃cs:List Value,cs.length=cs0.length/\Bx w g t cs)->∃cs:List Value,cs.length=cs0.length/\Bx W g t cs)/\∀g,Bx w g t cs0->Bx W g t cs0
theorem nC.refl:nC B t cs0 w w:=⟨zB _ _,λ_=>id,λ_=>id⟩
theorem nC.call(hB:B<=w.heap.size)(hb:Below w.heap.size w W):nC B t cs0 w W:=
 ⟨hb.mono hB,λ_ ⟨cs,h1,h2⟩=>⟨cs,h1,h2.call hb⟩,λ_ h=>h.call hb⟩
theorem nC.alloc(hB:B<=w.heap.size)(o:Obj):nC B t cs0 w (w.alloc o):=nC.call hB ((zB _ _).alloc (zl _) o)
theorem Bx.full{g:Nat}{cs:List Value}(h:Bx w g t cs)(hl:cs.length=cs0.length):Bx (Go.Proofs.YtfnehkmhcmkhjaaGreat.bK w g 0 cs0) g t cs0:=by have:=h.bK cs0 0;rwa[aho hl]at this
theorem Bx.setOther{g g':Nat}{t':TypeId}{cs vs:List Value}{o:Nat}(h:Bx w g' t' cs)(hne:g'≠g):Bx (Go.Proofs.YtfnehkmhcmkhjaaGreat.bK w g o vs) g' t' cs:=
 ((fA.bK vs o (fA.refl (some g) w)).2 g' h.lt (λe=>hne (zs e))).trans h
theorem nC.store{g:Nat}(hg:B<=g)(ho:∃cs:List Value,cs.length=cs0.length/\Bx w g t cs):nC B t cs0 w (bK w g 0 cs0):=by
 obtain⟨cs,h1,h2⟩:=ho;refine⟨Below.bK hg cs0 0 (zB _ _),λg' ⟨cs',h3,h4⟩=>?_,λg' h=>?_⟩
 ·by_cases e:g'=g
  ·subst e;exact⟨_,rfl,h2.full h1⟩
  ·exact⟨_,h3,h4.setOther e⟩
 ·by_cases e:g'=g
  ·subst e;exact h2.full h1
  ·exact h.setOther e
end
end
namespace wu
open C9 Go.RowKit
structure N8 where
 st:Nat
 cnt:Nat
 raw:List UInt8
 er:Nat->Bool
 ch:Nat->UInt8
structure aA where
 kind:Nat
 iL:Nat
 secs:List N8
 scr:List Sc
def blank:N8:=⟨0,0,[],λ_=>false,λ_=>0⟩
def aA.n(M:aA):Nat:=M.secs.length
def aA.sec(M:aA)(i:Nat):N8:=aJ blank M.secs i
def aA.put(M:aA)(i:Nat)(s:N8):aA:={M with secs:=M.secs.set i s}
theorem aA.yP(M:aA)(i:Nat)(s:N8):(M.put i s).n=M.n:=by simp[aA.put,aA.n]
theorem aA.jY(M:aA){i:Nat}(s:N8)(h:i<M.n):(M.put i s).sec i=s:=aQ _ _ _ h
theorem aA.kR(M:aA){i k:Nat}(s:N8)(h:k≠i):(M.put i s).sec k=M.sec k:=qO _ _ _ _ h
def sD(n:Nat)(scr:List Sc):List Int:=ed scr (98*n)
def qE(n:Nat)(scr:List Sc)(i k:Nat):Bool:=decide (((2352*i+k:Nat):Int)∈sD n scr)
def aA.tY(M:aA)(i k:Nat):Bool:=(M.sec i).er k || qE M.n M.scr i k
def aA.gone(M:aA)(i:Nat):List Int:=((List.range 2352).filter (M.tY i)).map Int.ofNat
def lC(l:List UInt8)(k:Nat):UInt8:=aJ 0 l k
def aA.out(M:aA)(i:Nat):List UInt8:=(List.range 2352).map λk=>if M.tY i k=true then 0 else lC (M.sec i).raw k^^^(M.sec i).ch k
def aA.JJ(M:aA)(a:Int):List UInt8×List Int×Int:=
 if 0<=a/\a<M.n then
  if (M.sec a.toNat).st=0 then([],[],8) else if (M.sec a.toNat).st=1 then(M.out a.toNat,M.gone a.toNat,0) else([],[],9)
 else([],[],2)
def aA.SS(M:aA)(i:Nat):Prop:=(M.sec i).st=1/\M.gone i = []/\∀k,k<2352->(M.sec i).ch k=0
open Classical in
noncomputable def aA.nG(M:aA)(a:Int):Bool:=decide ((0<=a/\a<M.n)/\M.SS a.toNat)
def aA.eF(M:aA)(a:Int):Int×Int:=if 0<=a/\a<M.n then((M.sec a.toNat).st,0) else(0,2)
def aA.write(M:aA)(i st:Nat)(raw:List UInt8):Int×aA:=
 if M.kind=0 then(15,M) else if M.kind=1/\(M.sec i).st≠0 then(8,M)
 else if (M.sec i).cnt+1 > M.iL then(16,M.put i {M.sec i with st:=3,cnt:=(M.sec i).cnt+1,raw:=[],ch:=λ_=>0})
 else(0,M.put i {M.sec i with st:=st,cnt:=(M.sec i).cnt+1,raw:=raw,ch:=λ_=>0})
def aA.record(M:aA)(a:Int)(raw:List UInt8):Int×aA:=if 0<=a/\a<M.n then(if raw.length=2352 then M.write a.toNat 1 raw else(1,M)) else(2,M)
def aA.uA(M:aA)(a:Int):Int×aA:=if 0<=a/\a<M.n then M.write a.toNat 2 [] else(2,M)
def aA.scratch(M:aA)(l:List Sc):Int×aA:=
 if lU (98*M.n+108) l=false then(1,M) else if M.scr.length+l.length > 256 then(7,M) else(0,{M with scr:=M.scr++l})
structure Ia where
 aj:Int
 er:List Int
 ch:List (Int×Int)
def pW(c:Int×Int):Prop:=(0<=c.1/\c.1<2352)/\1<=c.2/\c.2<=255
def Ia.Ok(d:Ia)(n:Nat):Prop:=(0<=d.aj/\d.aj<n)/\((∀x∈d.er,0<=x/\x<2352)/\d.er.Pairwise (· < ·))/\∀c∈d.ch,pW c
def b8(x:Int):UInt8:=UInt8.ofNat (x%256).toNat
def Hu(f:Nat->Bool)(l:List Int):Nat->Bool:=λk=>f k || decide ((k:Int)∈l)
def ch1(f:Nat->UInt8)(c:Int×Int):Nat->UInt8:=λk=>if (k:Int)=c.1 then f k^^^b8 c.2 else f k
def Oa(f:Nat->UInt8)(l:List (Int×Int)):Nat->UInt8:=l.foldl ch1 f
theorem agb(f:Nat->Bool):Hu f []=f:=by funext k;simp[Hu]
theorem acL(f:Nat->Bool)(l:List Int)(x:Int):Hu f (l++[x])=λ(k:Nat)=>if (k:Int)=x then true else Hu f l k:=by funext k;by_cases h:(k:Int)=x <;> simp[Hu,h]
theorem acj(f:Nat->UInt8)(l:List (Int×Int))(c:Int×Int):Oa f (l++[c])=ch1 (Oa f l) c:=by simp[Oa]
open Classical in
noncomputable def aA.gU(M:aA)(d:Ia):Int×aA:=
 if d.Ok M.n then(0,M.put d.aj.toNat {M.sec d.aj.toNat with er:=Hu (M.sec d.aj.toNat).er d.er,ch:=Oa (M.sec d.aj.toNat).ch d.ch}) else(1,M)
structure N8.Ok (s:N8) (N:Nat):Prop where
 st:s.st<=3
 cnt:s.cnt<=N
 one:s.st=1->s.raw.length=2352
 raw:s.raw.length<=2352
 er:∀k,s.er k=true->k<2352
 ch:∀k,s.ch k≠0->k<2352
structure aA.Ok (M:aA) (N:Nat):Prop where
 kind:M.kind<=2
 iL:1<=M.iL/\M.iL<=1048576
 n:1<=M.n/\M.n<=4096
 sec:∀i,i<M.n->(M.sec i).Ok N
 scr:M.scr.length<=256
 fit:lU (98*M.n+108) M.scr=true
theorem N8.Ok.mono{s:N8}{N K:Nat}(h:s.Ok N)(hk:N<=K):s.Ok K:=⟨h.st,zT h.cnt hk,h.one,h.raw,h.er,h.ch⟩
theorem aA.Ok.mono{M:aA}{N K:Nat}(h:M.Ok N)(hk:N<=K):M.Ok K:=⟨h.kind,h.iL,h.n,λi hi=>(h.sec i hi).mono hk,h.scr,h.fit⟩
theorem aA.Ok.put{M:aA}{N:Nat}(h:M.Ok N){i:Nat}{s:N8}(hi:i<M.n)(hs:s.Ok N):(M.put i s).Ok N:=by
 refine⟨h.kind,h.iL,by rw[aA.yP];exact h.n,λk hk=>?_,h.scr,by rw[aA.yP];exact h.fit⟩;rw[aA.yP]at hk;by_cases e:k=i
 ·subst e;rw[aA.jY _ _ hi];exact hs
 ·rw[aA.kR _ _ e];exact h.sec k hk
theorem aA.Ok.write{M:aA}{N:Nat}(h:M.Ok N){i st:Nat}{raw:List UInt8}(hi:i<M.n)(hst:st<=3)(h1:st=1->raw.length=2352)(hr:raw.length<=2352):(M.write i st raw).2.Ok (N+1):=by
 have hs:=(h.sec i hi).mono (Nat.le_succ N);have hc:=(h.sec i hi).cnt;have hM:=h.mono (Nat.le_succ N);unfold aA.write;split
 ·exact hM
 ·split
  ·exact hM
  ·split
   ·exact hM.put hi ⟨by simp,by simp only;omega,by simp,by simp,hs.er,by simp⟩
   ·exact hM.put hi ⟨hst,by simp only;omega,h1,hr,hs.er,by simp⟩
theorem aA.Ok.record{M:aA}{N:Nat}(h:M.Ok N)(a:Int)(raw:List UInt8):(M.record a raw).2.Ok (N+1):=by
 have hM:=h.mono (Nat.le_succ N);unfold aA.record;split
 ·split
  ·exact h.write (by omega) (by omega) (λ_=>by assumption) (by omega)
  ·exact hM
 ·exact hM
theorem aA.Ok.uA{M:aA}{N:Nat}(h:M.Ok N)(a:Int):(M.uA a).2.Ok (N+1):=by
 have hM:=h.mono (Nat.le_succ N);unfold aA.uA;split
 ·exact h.write (by omega) (by omega) (λh=>by omega) (by simp)
 ·exact hM
theorem Bl(n:Nat)(l m:List Sc):lU n (l++m)=(lU n l && lU n m):=by simp[lU]
theorem aA.Ok.scratch{M:aA}{N:Nat}(h:M.Ok N)(l:List Sc):(M.scratch l).2.Ok N:=by
 unfold aA.scratch;split
 ·exact h
 ·split
  ·exact h
  ·refine⟨h.kind,h.iL,h.n,h.sec,by simp only[Yb];omega,?_⟩;show lU (98*M.n+108) (M.scr++l)=true;rw[Bl,h.fit]
   simp_all
theorem aci:∀(l:List (Int×Int))(f:Nat->UInt8),(∀k,f k≠0->k<2352)->(∀c∈l,pW c)->∀k,Oa f l k≠0->k<2352
 | [],f,hf,_,k,h=>hf k h
 | c :: l,f,hf,hl,k,h=>by
   refine aci l (ch1 f c) (λj hj=>?_) (λc hc=>hl c (.tail _ hc)) k h;have:=hl c (.head _);unfold pW at this;unfold ch1 at hj;split at hj
   ·omega
   ·exact hf j hj
theorem aA.Ok.gU{M:aA}{N:Nat}(h:M.Ok N)(d:Ia):(M.gU d).2.Ok N:=by
 unfold aA.gU;split
 ·rename_i hd
  obtain⟨h1,h2,h3⟩:=hd;have hi:d.aj.toNat<M.n:=by omega
  have hs:=h.sec _ hi;refine h.put hi ⟨hs.st,hs.cnt,hs.one,hs.raw,λk hk=>?_,aci _ _ hs.ch h3⟩;simp only[Hu,Xq,Yj]at hk;rcases hk with hk|hk
  ·exact hs.er k hk
  ·have:=h2.1 _ hk;omega
 ·exact h
structure AC where
 kind:Int
 at_:Int
 byte:Int
 short:Bool
 scr:List Sc
 dam:Ia
def jX(kind n iL:Nat):aA:=⟨kind,iL,List.replicate n blank,[]⟩
theorem wS(kind n iL i:Nat):(jX kind n iL).sec i=blank:=by unfold aA.sec jX aJ;simp only[List.getElem?_replicate];split <;> rfl
theorem aay{kind n iL:Nat}(hk:kind<=2)(he:1<=iL/\iL<=1048576)(hn:1<=n/\n<=4096):(jX kind n iL).Ok 0:=by refine⟨hk,he,by simpa[jX,aA.n]using hn,λi _=>?_,by simp[jX],by simp[jX,lU]⟩;rw[wS];exact⟨by simp[blank],by simp[blank],by simp[blank],by simp[blank],by simp[blank],by simp[blank]⟩
theorem uj(M:aA)(i:Nat)(x:Int):x∈M.gone i↔∃k:Nat,k<2352/\M.tY i k=true/\x=k:=by
 simp only[aA.gone,YW,YI,Yx];constructor
 ·rintro⟨k,⟨h1,h2⟩,rfl⟩;exact⟨k,h1,h2,rfl⟩
 ·rintro⟨k,h1,h2,rfl⟩;exact⟨k,⟨h1,h2⟩,rfl⟩
theorem Bq(M:aA)(i:Nat):(M.gone i).Pairwise (· < ·):=by unfold aA.gone;rw[XH];exact(XN _ List.pairwise_lt_range).imp λh=>by simpa using h
theorem Dj(M:aA)(i:Nat):∀x∈M.gone i,0<=x/\x<2352:=λx hx=>by obtain⟨k,h,_,rfl⟩:=(uj M i x).1 hx;omega
def aA.all(M:aA):Nat->List Int
 |0=>[]
 |k+1=>M.all k++(M.gone k).map λx=>2352*(k:Int)+x
theorem AU{l m:List Int}(hl:l.Pairwise (· < ·))(hm:m.Pairwise (· < ·))(h:∀z,z∈l↔z∈m):l=m:=by
 have hln:l.Nodup:=hl.imp λh e=>by omega
 have hmn:m.Nodup:=hm.imp λh e=>by omega
 exact((List.perm_ext_iff_of_nodup hln hmn).2 h).eq_of_pairwise (le:=(·<=·)) (λa b _ _ h1 h2=>by omega) (hl.imp Int.le_of_lt) (hm.imp Int.le_of_lt)
theorem wW(M:aA)(i:Nat):(M.out i).length=2352:=by simp[aA.out]
end wu
section
open Go.RowKit
def aU(B:Nat)(t:TypeId)(m:Nat)(Φ:World->List Value->Prop)(w W:World):Prop:=
 Below B w W/\(∀b,b<w.heap.size->(∀cs:List Value,cs.length=m->¬ Bx w b t cs)->W.heap[b]? = w.heap[b]?)/\∀b (cs:List Value),cs.length=m->Bx w b t cs->∃cs':List Value,cs'.length=m/\Bx W b t cs'/\(cs'=cs\/Φ W cs')
section
variable {B:Nat} {t:TypeId} {m:Nat} {Φ:World->List Value->Prop} {w W:World}
theorem aU.refl:aU B t m Φ w w:=⟨zB _ _,λ_ _ _=>rfl,λb cs h1 h2=>⟨cs,h1,h2,.inl rfl⟩⟩
theorem aU.call(hB:B<=w.heap.size)(hb:Below w.heap.size w W):aU B t m Φ w W:=⟨hb.mono hB,λb h _=>hb.block b h,λb cs h1 h2=>⟨cs,h1,h2.call hb,.inl rfl⟩⟩
theorem aU.alloc(hB:B<=w.heap.size)(o:Obj):aU B t m Φ w (w.alloc o):=aU.call hB ((zB _ _).alloc (zl _) o)
theorem aU.store{g:Nat}{cs0:List Value}(hg:B<=g)(h0:cs0.length=m)(ho:∃cs:List Value,cs.length=m/\Bx w g t cs)(hP:Φ (bK w g 0 cs0) cs0):aU B t m Φ w (bK w g 0 cs0):=by
 obtain⟨cs,h1,h2⟩:=ho;have hfull:Bx (bK w g 0 cs0) g t cs0:=h2.full (h1.trans h0.symm);refine⟨Below.bK hg cs0 0 (zB _ _),λb hb hn=>?_,λb cs' h3 h4=>?_⟩
 ·have hne:b≠g:=λe=>by subst e;exact hn cs h1 h2
  exact(fA.bK cs0 0 (fA.refl (some g) w)).2 b hb (λe=>hne (zs e))
 ·by_cases e:b=g
  ·subst e;exact⟨cs0,h0,hfull,.inr hP⟩
  ·exact⟨cs',h3,h4.setOther e,.inl rfl⟩
theorem aU.full(hR:aU B t m Φ w W)(hst:∀cs,Φ w cs->Φ W cs){g:Nat}(h:∃cs:List Value,cs.length=m/\Bx w g t cs/\Φ w cs):∃cs:List Value,cs.length=m/\Bx W g t cs/\Φ W cs:=by
 obtain⟨cs,h1,h2,h3⟩:=h;obtain⟨cs',h4,h5,h6⟩:=hR.2.2 g cs h1 h2;refine⟨cs',h4,h5,?_⟩;rcases h6 with rfl|h6
 ·exact hst _ h3
 ·exact h6
theorem aU.some(hR:aU B t m Φ w W){g:Nat}(h:∃cs:List Value,cs.length=m/\Bx w g t cs):∃cs:List Value,cs.length=m/\Bx W g t cs:=by obtain⟨cs,h1,h2⟩:=h;obtain⟨cs',h4,h5,_⟩:=hR.2.2 g cs h1 h2;exact⟨cs',h4,h5⟩
theorem aU.rows(hR:aU B t m Φ w W){sz n:Nat}{v:Value}{f:Nat->List Value}(hm:m<sz)(hf:∀i,i<n->(f i).length=sz)(h:dU w sz v n f):dU W sz v n f:=by
 obtain⟨a,c,b,off,rfl,hac,hcell⟩:=h;refine⟨a,c,b,off,rfl,hac,λi hi=>?_⟩;obtain⟨ha,hr⟩:=hcell i hi;refine⟨ha,λj u hu=>?_⟩;have h1:=hr j u hu;have hlast:∃u,(f i)[m]? = Option.some u:=⟨(f i)[m]'(by rw[hf i hi];exact hm),Ye _⟩;obtain⟨u2,hu2⟩:=hlast;have h2:=hr m u2 hu2;have hb:=zc w _ h1;have hk:=hR.2.1 b hb (λcs hl hx=>by
  unfold Bx at hx;simp only[World.cell?,hx]at h2;have h3:m<=off+i*sz+m:=Nat.le_add_left _ _;simp[hl]at h2)
 simp only[World.cell?]at h1 ⊢;rw[hk];exact h1
theorem aU.kD(hR:aU B t m Φ w W)(hm:m<7){v:Value}{l:List T.ax}(h:bQ w v l):bQ W v l:=aU.rows hR hm (λi _=>eH _) h
end
end
end Go.Proofs.YtfnehkmhcmkhjaaGreat
