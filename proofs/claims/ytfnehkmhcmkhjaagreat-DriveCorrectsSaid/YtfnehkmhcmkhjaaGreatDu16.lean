/- Parts -/
import Derived.Test.YtfnehkmhcmkhjaaGreatDu11
import Derived.Deep.CutRange
import Derived.Test.YtfnehkmhcmkhjaaGreatDu03
import Derived.Test.YtfnehkmhcmkhjaaGreatDu12
import Derived.Test.YtfnehkmhcmkhjaaGreatDuShelf
import Derived.RegionTactic
import Derived.BigRegion
set_option maxRecDepth 100000
set_option maxHeartbeats 8000000
set_option linter.unusedVariables false
namespace Go.Proofs.YtfnehkmhcmkhjaaGreat
open Tryz
namespace C9
open Go.RowKit W8
structure I4 (w0:World) (N gg gb gt:Nat) (G T:List Bool) (W:World):Prop where
 g:Bx W gg 4 (bb G)
 b:Bx W gb 191 [.slice (some ⟨gg,0,none⟩) N N]
 t:Bx W gt 4 (bb T)
 le:Below w0.heap.size w0 W
 g1:w0.heap.size<=gg
 g2:gg<gb
 g3:gb<gt
section
variable {w0 W W':World} {N gg gb gt:Nat} {G T:List Bool}
theorem I4.keep(h:I4 w0 N gg gb gt G T W)(hb:Below (gt+1) W W'):I4 w0 N gg gb gt G T W':=
 have h1:=h.g1;have h2:=h.g2;have h3:=h.g3
 ⟨h.g.jm hb (by omega),h.b.jm hb (by omega),h.t.jm hb (by omega),h.le.trans (hb.mono (by omega)),h1,h2,h3⟩
theorem I4.size(h:I4 w0 N gg gb gt G T W):gt+1<=W.heap.size:=h.t.lt
theorem I4.call(h:I4 w0 N gg gb gt G T W)(hb:Below W.heap.size W W'):I4 w0 N gg gb gt G T W':=h.keep (hb.mono h.size)
theorem I4.aoH(h:I4 w0 N gg gb gt G T W)(k:Nat):I4 w0 N gg gb gt (G.set k true) T (W.setCell ⟨gg,k,none⟩ (.bool true)):=
 have h1:=h.g1;have h2:=h.g2;have h3:=h.g3
 ⟨by rw[<-ab7];exact h.g.set k _,h.b.far (by simp only;omega) _,h.t.far (by simp only;omega) _,h.le.setCell h1 _,h1,h2,h3⟩
theorem I4.aoI(h:I4 w0 N gg gb gt G T W)(k:Nat):I4 w0 N gg gb gt G (T.set k true) (W.setCell ⟨gt,k,none⟩ (.bool true)):=
 have h1:=h.g1;have h2:=h.g2;have h3:=h.g3
 ⟨h.g.far (by simp only;omega) _,h.b.far (by simp only;omega) _,by rw[<-ab7];exact h.t.set k _,h.le.setCell (by simp only;omega) _,h1,h2,h3⟩
end
theorem ahT:NI []=λ_=>false:=by funext g;simp[NI]
theorem QG(d:Int)(v:Value)(l:List Sc)(w:World)(hr:xH w v l)(hd:d<1\/401408<d):
 Calls prog 95 #[.int .i64 d,v] w (xG ([],1) w):=by
 obtain⟨a,c,rfl,hac⟩:=dB.form hr;have HF:=zH (λW=>(wJ d W).mono (λe w' (h:e=_/\W=w')=>(by rw[agr hd]at h;exact h:e=.returned (.int .i64 0)/\W=w')));go_enter func95,ntmps95;go_wp2_with (refine(HF.out _).mono ?_;rintro e w' ⟨rfl,rfl⟩);go_ret2;exact xG.none 1 rfl (zB _ _)
theorem aef(n:Nat)(v:Value)(l:List Sc)(w:World)(h1:1<=n)(h2:n<=401408)(hr:xH w v l)(hwf:∀i,i<l.length->Wf (Q3 l i))(hl:l.length<=9223372036854775807):
 Calls prog 95 #[.int .i64 n,v] w (xG (if lU (n+108) l=false then([],1) else(ed l n,0)) w):=by
 have HF:=zH (λW=>(wJ n W).mono (λe w' (h:e=_/\W=w')=>(by rw[ajx h1 h2]at h;exact h:e=.returned (.int .i64 ((n+108:Nat):Int))/\W=w')));obtain⟨a,c,rfl,hac⟩:=dB.form hr;obtain⟨b0,off,hcell⟩:=dB.at hr;have HC:=zH hcell;clear hcell;have HW:=zH hwf;clear hwf;have N7:Hid (∀k,k<l.length->jJ (n+108) (Q3 l k)=false->(if lU (n+108) l=false then(([]:List Int),(1:Int)) else(ed l n,0))=([],1)):=zH λk hk h=>by rw[ED hk h,zj rfl]
 have Zv:Hid (TQ (n+108) l l.length->(if lU (n+108) l=false then(([]:List Int),(1:Int)) else(ed l n,0))=(ed l n,0)):=zH λh=>by rw[Jm h,zi (by decide)]
 generalize (if lU (n+108) l=false then(([]:List Int),(1:Int)) else(ed l n,0))=RES at *;obtain⟨N,hN⟩:∃N,N=n+108:=⟨_,rfl⟩;rw[<-hN]at HF N7 Zv;have hz:((N:Int) == 0)=false:=by rw[Yc];omega
 have hN1:n+108<=N:=by omega
 have hN2:N<=n+108:=by omega
 have HN:=zH hN;clear hr hN;go_enter func95,ntmps95;go_wp2_with fail;refine(HF.out _).mono ?_;rintro e w' ⟨rfl,rfl⟩;go_wp2_with (first|(refine vX rfl _ _ rfl underlying191 infoBool9 N rfl rfl rfl rfl (by omega) ?_;intro w2 hbx2 hb2;have hsz2:=hbx2.lt)|(refine vX rfl _ _ rfl underlying191 infoBool9 n rfl rfl rfl rfl (by omega) ?_;intro w3 ig hb3));obtain⟨gt,hgt⟩:∃gt,gt=w2.heap.size+1:=⟨_,rfl⟩;obtain⟨gb,hgb⟩:∃gb,gb=w2.heap.size:=⟨_,rfl⟩;obtain⟨gg,hgg⟩:∃gg,gg=w.heap.size:=⟨_,rfl⟩;have hlo0:I4 w N gg gb gt (mk N (pU (l.take 0))) (mk n (NI (l.take 0))) w3:=by have hA:=Below.alloc (zB w2.heap.size w2) (zl _) (.cells #[Value.slice (some ⟨w.heap.size,0,none⟩) N N] 191);rw[List.take_zero,agu,ahT,Qn,Qn,hgg,hgb,hgt];rw[Yl]at ig;exact⟨((hbx2.jm hA hsz2).call hb3),(Bx.new _ _ _).call hb3,ig,hb2.trans ((hA.trans (hb3.mono (by simp))).mono hb2.size),zl _,hsz2,by omega⟩
 simp only[<-hgt];simp only[<-hgb,<-hgg];clear hbx2 hb2 hsz2 ig hb3 hgt hgb hgg hz;have hg1:=hlo0.g1;have hg2:=hlo0.g2;have hg3:=hlo0.g3
 go_loopw [28] (λvk wr=>∃k:Nat,k<=l.length/\vk=.int .i64 k/\Hid (TQ N l k)/\I4 w N gg gb gt (mk N (pU (l.take k))) (mk n (NI (l.take k))) wr) (λvk _=>l.length-(RowKit.intOf vk).toNat)
 case atStart=>exact⟨0,by omega,rfl,zH λm hm=>by omega,hlo0⟩
 case round=>
  clear hlo0;obtain⟨k,hk,rfl,HO,hlo⟩:=hrel;obtain⟨wo,rfl⟩:∃wo:World,wo=wr:=⟨_,rfl⟩;have hsz:=hlo.size;by_cases hlt:k<l.length
  ·obtain⟨ha,hrange⟩:=HC.out k hlt;have HT:=zH (Gp hlt);have RY:=zH (N7.out k hlt);have Md:=HW.out k hlt;have HS:Hid (jJ N (Q3 l k)=true->TQ N l (k+1)):=zH λh m hm=>by
    by_cases e:m<k
    ·exact HO.out m e
    ·have:m=k:=by omega
     rw[this];exact h
   change w.rangeAt b0 (off+k*2) (scc (Q3 l k)) at hrange;generalize Q3 l k=x at *;obtain⟨xf,xc⟩:=x;have hrg:wo.rangeAt b0 (off+k*2) (scc ⟨xf,xc⟩):=λj u hu=>(hlo.le.cell (p:=⟨b0,off+k*2+j,none⟩) (zc w _ (hrange j u hu))).trans (hrange j u hu)
   clear hrange;obtain⟨hc0,hc1⟩:=rd2 hrg;clear hrg;simp only at hc0 hc1;have hix:=λw'=>aB underlying27 sizeSc (cap:=c) ha hlt _ rfl w'
   have Ha:=zH ha;clear ha;have hA:=(zB wo.heap.size wo).alloc (zl _) (.cells #[.int .i64 xf,.int .i64 xc] 78);have aah:=hlo.call hA;have Wn:=Bx.new wo 78 [.int .i64 xf,.int .i64 xc];have Ib:=zH aah;have HSB:=zH Wn;clear hA aah Wn hlo;go_wp2_with fail;refine(fits_any xf xc N _ Md (by omega)).mono ?_;rintro e w1 ⟨rfl,hb1⟩;have hlo1:=Ib.out.call hb1;have jB:=HSB.out.call hb1;obtain⟨q,hq⟩:∃q,q=jJ N ⟨xf,xc⟩:=⟨_,rfl⟩;rw[<-hq]at HS RY ⊢;obtain⟨⟨f1,f2⟩,c1,c2⟩:=Md;simp only at f1 f2 c1 c2;clear hc0 hc1 hb1 Ib HSB;cases q with
   | false=>
     have HR:=zH (RY.out rfl);have lQ:=zH hlo1.le;clear hlo1 jB hq;go_wp2_with fail;go_ret2;rw[HR.out];exact xG.none 1 rfl lQ.out
   | true=>
     obtain⟨x1,x2,x3,x4⟩:=(tV _ _).1 hq.symm;simp only at x1 x2 x3 x4;have HS2:=zH (HS.out rfl);clear hq HS RY;obtain⟨fn,rfl⟩:∃fn:Nat,xf=(fn:Int):=⟨xf.toNat,by omega⟩;obtain⟨cn,rfl⟩:∃cn:Nat,xc=(cn:Int):=⟨xc.toNat,by omega⟩;obtain⟨sb,hsb⟩:∃sb,sb=wo.heap.size:=⟨_,rfl⟩;rw[<-hsb]at jB hsz;simp only[<-hsb];clear hsb;have hd1:=jB.cell (i:=1) rfl;go_wp2_with fail
     go_loopw [38] (λvi wr=>∃j:Nat,j<=cn/\vi=.int .i64 j/\I4 w N gg gb gt (prt N (l.take k) ⟨fn,cn⟩ j) (mk n (NI (l.take k))) wr/\Bx wr sb 78 [.int .i64 fn,.int .i64 cn]) (λvi _=>cn-(RowKit.intOf vi).toNat)
     case atStart=>exact⟨0,by omega,rfl,by rw[aek];exact hlo1,jB⟩
     case round=>
      clear hlo1 jB hd1;obtain⟨j,hj,rfl,hlo1,jB⟩:=hrel;have hd0:=jB.cell (i:=0) rfl;have hd1:=jB.cell (i:=1) rfl;by_cases hjt:j<cn
      ·have aok:(j:Int)<(cn:Int):=by omega
       have hkn:fn+j<N:=by omega
       have hset:=hlo1.aoH (fn+j);rw[aej N _ _ j (fn+j) (by simp only;omega)]at hset;have hix2:=λw'=>aB underlying191 sizeBool9 (a:=some ⟨gg,0,none⟩) (cap:=N) rfl hkn ((fn:Int)+(j:Int)) (by omega) w'
       simp only[Yy,Yf]at hix2;have hcb:=hlo1.b.cell (i:=0) rfl;have hcl:wr.cell? ⟨gg,fn+j,none⟩=some (.bool (pU (l.take k) (fn+j) || xR ⟨fn,cn⟩ j (fn+j))):=hlo1.g.cell (by rw[KR];exact wV _ hkn);have hfr:=hlo1.g.free (fn+j);have ado:=jB.far (p:=⟨gg,fn+j,none⟩) (by simp only;omega) (.bool true);have KF:=zH hset;have Ic:=zH ado;clear hset ado hlo1 jB;go_wp2_with fail;go_roundw;case rel=>exact⟨j+1,by omega,by go_num,KF.out,Ic.out⟩
       case measure=>simp[RowKit.intOf];omega
      ·obtain rfl:j=cn:=by omega
       rw[ahl N (l.take k) ⟨fn,j⟩ j rfl,<-HT.out]at hlo1;clear hd0 hd1 hjt hj;have hd0:=jB.cell (i:=0) rfl;obtain⟨lo,hlo2,hlo3,ade⟩:∃lo:Nat,fn<=lo+108/\(lo=0\/lo+108<=fn)/\max 0 ((fn:Int)-108)=lo:=⟨fn-108,by omega,by omega,by omega⟩;have HL4:=zH ade;have hpz:=aem n (l.take k) ⟨fn,j⟩ lo (by simp only;omega);rw[<-hpz]at hlo1;clear ade hpz;obtain⟨H,hH1,hH2⟩:∃H:Nat,(H=n\/H=fn+j)/\min (n:Int) ((fn:Int)+j)=H:=⟨min n (fn+j),by omega,by omega⟩;have HH2:=zH hH2;clear hH1 hH2;have hcase:((fn:Int)<=108/\lo=0)\/(108<(fn:Int)/\lo+108=fn):=by omega
       rcases hcase with ⟨m1,m2⟩|⟨m1,m2⟩
       all_goals
        have M2:=zH m2;clear m2 hlo3;by_cases m3:(n:Int)<=(fn:Int)+j;all_goals
         go_wp2_with fail
         go_loopw [12] (λvx wr=>∃x:Nat,lo<=x/\(x<=lo\/x<=fn+j)/\vx=.int .i64 x/\I4 w N gg gb gt (mk N (pU (l.take (k+1)))) (pto n (l.take k) ⟨fn,j⟩ x) wr/\Bx wr sb 78 [.int .i64 fn,.int .i64 j]) (λvx _=>n+1-(RowKit.intOf vx).toNat)
         case atStart=>exact⟨lo,zl _,.inl (zl _),by have:=M2.out;congr 1 <;> omega,hlo1,jB⟩
         case round=>
          clear hlo1 jB hd0;obtain⟨x,hx1,hx2,rfl,hlo1,jB⟩:=hrel;have hd0:=jB.cell (i:=0) rfl;have hd1:=jB.cell (i:=1) rfl;have CX:=zH hx2;clear hx2;by_cases hxt:(x:Int)<(n:Int)/\(x:Int)<(fn:Int)+j
          ·obtain⟨ht1,ht2⟩:=hxt;have hxn:x<n:=by omega
           have hset:=hlo1.aoI x;rw[ael n _ _ x (by rw[show((⟨(fn:Int),(j:Int)⟩:Sc).f)=(fn:Int) from rfl,HL4.out];omega)]at hset;have hix2:=λw'=>aB underlying191 sizeBool9 (a:=some ⟨gt,0,none⟩) (cap:=n) rfl hxn (x:Int) rfl w'
           simp only[Yy,Yf]at hix2;have hcl:wr.cell? ⟨gt,x,none⟩=some (.bool (NI (l.take k) x || NJ ⟨fn,j⟩ x x)):=hlo1.t.cell (by rw[KR];exact wV _ hxn);have hfr:=hlo1.t.free x;have ado:=jB.far (p:=⟨gt,x,none⟩) (by simp only;omega) (.bool true);have KF:=zH hset;have Ic:=zH ado;clear hset ado hlo1 jB;go_wp2_with fail;go_roundw;case rel=>exact⟨x+1,by omega,.inr (by omega),by go_num,KF.out,Ic.out⟩
           case measure=>simp[RowKit.intOf];omega
          ·have hpa:=ahn n (l.take k) ⟨fn,j⟩ x (by simp only;omega) (by have:=CX.out;have:=HL4.out;simp only;omega);rw[hpa,<-HT.out]at hlo1;have Ib:=zH hlo1;clear hpa hlo1 jB;have aoE:¬ ((x:Int)<(n:Int))\/¬ ((x:Int)<(fn:Int)+j):=by omega
           have aoF:((n:Int)<=(fn:Int)+j/\¬ ((x:Int)<(n:Int)))\/(¬ (n:Int)<=(fn:Int)+j/\¬ ((x:Int)<(fn:Int)+j)):=by omega
           clear hxt aoE m3;rcases aoF with ⟨m3,m4⟩|⟨m3,m4⟩
           all_goals
            go_wp2_with fail;go_roundw;case rel=>exact⟨k+1,by omega,by go_num,HS2,Ib.out⟩
            case measure=>simp[RowKit.intOf];omega
  ·obtain rfl:k=l.length:=by omega
   rw[YD]at hlo;have HR:=zH (Zv.out HO.out);clear hlt hk HO Zv N7 HC HW HF hac;have aoc:=HR.out;subst aoc;go_wp2_with fail
   go_loopw [13,68] (λvo vf wr=>∃f:Nat,f<=n/\vf=.int .i64 f/\wr.ownsRow (gt+1) 3 1 vo (ed l f).length (is (ed l f))/\I4 w N gg gb gt (mk N (pU l)) (mk n (NI l)) wr) (λ_ vf _=>n-(RowKit.intOf vf).toNat)
   case atStart=>exact⟨0,by omega,rfl,ownsRow_nil _ _ _,hlo⟩
   case round=>
    clear hlo hsz;obtain⟨f,hf,rfl,ho,hlo⟩:=hrel;obtain⟨wq,rfl⟩:∃wq:World,wq=wr:=⟨_,rfl⟩;have hsz:=hlo.size;have hLl:=mG l f;by_cases hlt:f<n
    ·have hlt':(f:Int)<(n:Int):=by omega
     have hE:Hid (ed l (f+1)=ed l f++ls (yg l f) f):=zH rfl;have Zr:Hid (NI l f=false->ls (yg l f) f = []):=zH λh=>by rw[Iq l f h];exact aj6 f
     obtain⟨L,hL⟩:∃L,L=ed l f:=⟨_,rfl⟩;rw[<-hL]at ho hE hLl;clear hL;obtain⟨ao,co,rfl⟩:=aS ho;obtain⟨q,hq⟩:∃q,q=NI l f:=⟨_,rfl⟩;have hcl:wq.cell? ⟨gt,f,none⟩=some (.bool q):=hlo.t.cell (by rw[KR];rw[hq];exact wV _ hlt);rw[<-hq]at Zr;have hix2:=λw'=>aB underlying191 sizeBool9 (a:=some ⟨gt,0,none⟩) (cap:=n) rfl hlt (f:Int) rfl w'
     simp only[Yy,Yf]at hix2;have HO:=zH ho;have Ib:=zH hlo;clear hq ho hlo;cases q with
     | false=>
       have HE2:Hid (ed l (f+1)=L):=zH (by rw[hE.out,Zr.out rfl,List.append_nil]);go_wp2_with fail;go_roundw;case rel=>exact⟨f+1,by omega,by go_num,by rw[HE2.out];exact HO.out,Ib.out⟩
       case measure=>simp[RowKit.intOf];omega
     | true=>
       clear Zr;have hA:=(zB wq.heap.size wq).alloc (zl _) (.cells #[.slice none 0 0] 31);have aah:=Ib.out.call hA;have hbc:=aah.b.cell (i:=0) rfl;have hsz':gg<wq.heap.size/\gb<wq.heap.size:=by omega
       have HK:=zH (KZ f n N gg gb wq.heap.size l (wq.alloc (.cells #[.slice none 0 0] 31)) hlt HN.out h2 hsz'.1 hsz'.2 aah.g hbc ⟨_,Bx.new wq _ _,ownsRow_nil _ _ _⟩);clear aah hbc hA;go_wp2_with fail;refine HK.out.mono ?_;rintro e w4 ⟨rfl,⟨ve,hbx,hoe⟩,hb4⟩;have ajF:=((zB wq.heap.size wq).alloc (zl _) (.cells #[.slice none 0 0] 31)).trans hb4;have ade:=Ib.out.call ajF;have ho4:=aV HO.out ajF;have HB:=zH (λk (hk:k<(yg l f).length)=>agf l f k hk);have hel:(yg l f).length<=28:=tK l f 28;generalize yg l f=E at hoe hel HB hE;obtain⟨ae,ce,rfl⟩:=aS hoe;obtain⟨eb,heb⟩:∃eb,eb=wq.heap.size:=⟨_,rfl⟩;have hoff:Off (.slice ao L.length co) (λk=>k=wq.heap.size\/ae=some ⟨k,0,none⟩):=by
        refine Off.own HO.out λk _ hk hk2=>?_
        rcases hk2 with hk2|hk2
        ·omega
        ·have:=(hoe.lt k (by rw[hk2];rfl)).1;omega
       rw[<-heb]at hbx hoe hoff hsz;simp only[<-heb];clear hb4 ajF HK hsz' Ib HO heb;have hd0:=hbx.cell (i:=0) rfl;go_wp2_with fail
       go_loopw [13,81] (λvo vk wr=>∃k:Nat,k<=E.length/\vk=.int .i64 k/\wr.ownsRow (gt+1) 3 1 vo (L++Hw E f k).length (is (L++Hw E f k))/\Off vo (λk=>k=eb\/ae=some ⟨k,0,none⟩)/\wr.ownsRow (eb+1) 3 1 (.slice ae E.length ce) E.length (is E)/\Bx wr eb 31 [.slice ae E.length ce]/\I4 w N gg gb gt (mk N (pU l)) (mk n (NI l)) wr) (λ_ vk _=>E.length-(RowKit.intOf vk).toNat)
       case atStart=>exact⟨0,by omega,rfl,by rw[adQ,List.append_nil];exact ho4,hoff,hoe,hbx,ade⟩
       case round=>
        clear ho4 hoff hoe hbx ade hd0;obtain⟨k,hk,rfl,hoo,hoff,hoe,hbx,hlo⟩:=hrel;have apr:=hlo.size;have ao8:=hbx.lt;by_cases hkt:k<E.length
        ·have apj:(k:Int)<(E.length:Int):=by omega
         obtain⟨ge,ce',he,hge,apb⟩:=kQ hoe (by omega);simp only[YT]at he;obtain⟨rfl,_,rfl⟩:=he;obtain⟨hx1,hx2⟩:=HB.out k hkt;have HS:=zH (adP E f k (aI E k) (adz hkt));have hcl:wr.cell? ⟨ge,k,none⟩=some (.int .i64 (aI E k)):=by rw[hoe.cellAt k (by omega),wL hkt]
         have hix:=λw'=>aB underlying31 sizeInt9 (a:=some ⟨ge,0,none⟩) (cap:=ce) rfl hkt _ rfl w'
         simp only[Yy,Yf]at hix;have hd0:=hbx.cell (i:=0) rfl;generalize aI E k=x at *;have hll:=Fg E f k hel;obtain⟨M,hM⟩:∃M,M=L++Hw E f k:=⟨_,rfl⟩;have hMl:M.length<=28*f+28:=by rw[hM,Yb];omega
         rw[<-hM]at hoo;have HOE:=zH hoe;have ny:=zH hbx;have Ib:=zH hlo;have HOO:=zH hoo;have IZ:=zH hoff;clear hoe hbx hlo hoo hoff;have aiq:∀h:Hw E f (k+1)=Hw E f k,Hid (L++Hw E f (k+1)=M):=λh=>zH (by rw[h,hM])
         have HST:=zH aiq;have HGR:Hid (4<E.length->x<24->L++Hw E f (k+1)=M++[24*(f:Int)+x]):=zH λh1 h2=>by rw[HS.out,zj ⟨h1,h2⟩,hM,Yz]
         clear hM aiq;by_cases h4:4<E.length
         ·have h4':(4:Int)<(E.length:Int):=by omega
          by_cases hx:x<24
          ·have HS2:=zH (HGR.out h4 hx);clear HS HGR HST;have hoa:=aV HOO.out ((zB wr.heap.size wr).alloc (zl _) (.cells #[.int .i64 (24*(f:Int)+x)] 3));have hA:=(zB wr.heap.size wr).alloc (zl _) (.cells #[.int .i64 (24*(f:Int)+x)] 3);have HA:=zH hA;have CB:gt+1<=(wr.alloc (.cells #[.int .i64 (24*(f:Int)+x)] 3)).heap.size:=by simp;omega
           clear hA;go_wp2_with (at_builtin;refine xu rfl _ _ rfl underlying31 infoInt9 rfl hoa rfl (g:=wr.heap.size) (y:=.int .i64 (24*(f:Int)+x)) rfl (by simp) rfl (by unfold maxLen;omega) (by omega) CB ?_;intro v7 w7 jl lH agA);have hb7:=(zB (gt+1) (wr.alloc (.cells #[.int .i64 (24*(f:Int)+x)] 3))).grown lH CB (λq hq=>by have:=bH hoa q hq;omega);have aon:=(Ib.out.call HA.out).keep hb7;have aoq:=ahb (aV HOE.out HA.out) lH (λq hq h=>IZ.out q h (.inr (by simpa[Value.ownBlock]using hq)));have LU:=SI (ny.out.call HA.out) lH (λh=>IZ.out eb h (.inl rfl));have hf7:=IZ.out.step agA (λq hq h=>by
            simp only[Yl]at hq;rcases h with h|h
            ·omega
            ·simp only[YA,Addr.mk.injEq,and_true]at h;omega)
           clear hoa lH agA HA HOE ny Ib HOO IZ;go_roundw;case rel=>exact⟨k+1,by omega,by go_num,by rw[HS2.out,uP,Yb];exact jl,hf7,aoq,LU,aon⟩
           case measure=>simp[RowKit.intOf];omega
          ·have HS2:=HST.out (by rw[HS.out,zi (λh=>hx h.2)]);have hxd:decide (x<24)=false:=zf hx;clear HS HGR HST;go_wp2_with fail;go_roundw;case rel=>exact⟨k+1,by omega,by go_num,by rw[HS2.out];exact HOO.out,IZ.out,HOE.out,ny.out,Ib.out⟩
           case measure=>simp[RowKit.intOf];omega
         ·have HS2:=HST.out (by rw[HS.out,zi (λh=>h4 h.1)]);have h4':¬ (4:Int)<(E.length:Int):=by omega
          clear HS HGR HST;go_wp2_with fail;go_roundw;case rel=>exact⟨k+1,by omega,by go_num,by rw[HS2.out];exact HOO.out,IZ.out,HOE.out,ny.out,Ib.out⟩
          case measure=>simp[RowKit.intOf];omega
        ·obtain rfl:k=E.length:=by omega
         go_wp2_with fail;go_roundw;case rel=>exact⟨f+1,by omega,by go_num,by rw[hE.out];exact hoo,hlo⟩
         case measure=>simp[RowKit.intOf];omega
    ·obtain rfl:f=n:=by omega
     have lQ:=zH hlo.le;have HO:=zH ho;obtain⟨ao,co,rfl⟩:=aS ho;clear ho hlo;go_wp2_with fail;go_ret2;exact⟨_,rfl,iQ HO.out (by omega),lQ.out⟩
def uY(x:List UInt8):List Value:=[.string (str x)]
theorem jb(x:List UInt8):(uY x).length=1:=rfl
theorem ahM(x:List UInt8):∀u∈uY x,u.oneCell'=true:=λu hu=>by simp only[uY,Va]at hu;subst hu;rfl
def fQ(w:World)(v:Value)(l:List (List UInt8)):Prop:=dB [] uY 1 w v l
theorem abo(l:List (List UInt8))(x:List UInt8):fH uY (l++[x])=fH uY l++[.string (str x)]:=by rw[nM,EE];rfl
theorem infoStr9:(prog.info? 9).map (λi=>(i.zero,i.size,i.bytes))=some (some (.string ⟨#[]⟩),1,16):=by kernel_rfl
def Om(R:List (List UInt8)×Int)(w:World)(e:Ending)(w':World):Prop:=∃v,e=.returned (.tuple #[v,.int .i64 R.2])/\w'.ownsRow w.heap.size 9 1 v R.1.length (fH uY R.1)/\Below w.heap.size w w'
theorem Om.none(c:Int){w:World}{e:Ending}{w':World}(he:e=.returned (.tuple #[.slice none 0 0,.int .i64 c]))(hb:Below w.heap.size w w'):Om ([],c) w e w':=⟨_,he,⟨rfl,.inl ⟨rfl,rfl⟩⟩,hb⟩
end C9
namespace W8
open Go.RowKit
theorem infoI64:(prog.info? 3).map (λi=>(i.zero,i.size,i.bytes))=some (some (.int .i64 0),1,8):=by kernel_rfl
theorem Dp(x y:Int)(w:World)(h1:0<=x)(h2:x<=1)(h3:0<=y)(h4:y<=100000):Calls prog 319 #[.int .i64 x,.int .i64 y] w λe w'=>e=.returned (.int .i64 (12+2*y+x))/\w=w':=by go_enter func319,ntmps319;go_wp2_with fail;go_ret;exact⟨rfl,rfl⟩
theorem aer(m:Nat)(x:Int)(w:World)(hx:x=m)(h:m<86):Calls prog 249 #[.int .i64 x] w λe w'=>∃v,e=.returned (.tuple #[v,.int .i64 0])/\w'.ownsRow w.heap.size 3 1 v 26 (is (pw m))/\Below w.heap.size w w':=by
 subst hx;have hm1:¬ ((m:Int)<0):=by omega
 have hm2:(m:Int)<86:=by omega
 have Dk:(0:Int)<=m:=by omega
 go_enter func249,ntmps249;go_wp2_with fail;have ho0:=ownsRow_nil w w.heap.size 3;have hb0:=zB w.heap.size w
 go_loopw [4,12] (λvo vk wr=>∃k:Nat,k<=26/\vk=.int .i64 k/\wr.ownsRow w.heap.size 3 1 vo k (is (pl m k))/\Below w.heap.size w wr) (λ_ vk _=>26-(RowKit.intOf vk).toNat)
 case atStart=>exact⟨0,by omega,rfl,ho0,hb0⟩
 case round=>
  clear ho0 hb0;obtain⟨k,hk,rfl,ho,hb⟩:=hrel;by_cases hlt:k<26
  ·have hbs:=hb.size;have hlt':(k:Int)<26:=by omega
   go_wp2_with fail;refine(Dp _ _ _ (by omega) (by omega) (by omega) (by omega)).mono ?_;rintro e w1 ⟨rfl,rfl⟩;obtain⟨y,hy⟩:∃y:Int,y=12+2*((m:Int)/2+43*(k:Int))+m%2:=⟨_,rfl⟩;rw[<-hy];have HY:Hid (y=pf m k):=zH hy;clear hy;have BC:=ja ho ((zB wr.heap.size wr).alloc (zl _) (.cells #[.int .i64 y] 3));have ER:=qJ wr [y] 3 (by simp);have hb6:=hb.alloc hbs (.cells #[.int .i64 y] 3);have yj:=hb6.size;clear ho hb;go_wp2_with (refine jH rfl _ _ rfl underlying31 infoI64 BC rfl ER rfl (by simp;omega) yj ?_;intro v7 w7 jl lH);have hb7:=hb6.grown lH yj (dW BC);rw[HY.out,<-ahg]at jl;clear hb6 BC ER lH;go_roundw;case rel=>exact⟨k+1,by omega,by go_num,jl,hb7⟩
   case measure=>simp[RowKit.intOf];omega
  ·obtain rfl:k=26:=by omega
   go_wp2_with fail;go_ret2;exact⟨_,rfl,ho,hb⟩
theorem aes(m:Nat)(x:Int)(w:World)(hx:x=m)(h:m<52):Calls prog 250 #[.int .i64 x] w λe w'=>∃v,e=.returned (.tuple #[v,.int .i64 0])/\w'.ownsRow w.heap.size 3 1 v 45 (is (qw m))/\Below w.heap.size w w':=by
 subst hx;have hm1:¬ ((m:Int)<0):=by omega
 have hm2:(m:Int)<52:=by omega
 have Dk:(0:Int)<=m:=by omega
 go_enter func250,ntmps250;go_wp2_with fail;have ho0:=ownsRow_nil w w.heap.size 3;have hb0:=zB w.heap.size w
 go_loopw [4,12] (λvo vk wr=>∃k:Nat,k<=43/\vk=.int .i64 k/\wr.ownsRow w.heap.size 3 1 vo k (is (ql m k))/\Below w.heap.size w wr) (λ_ vk _=>43-(RowKit.intOf vk).toNat)
 case atStart=>exact⟨0,by omega,rfl,ho0,hb0⟩
 case round=>
  clear ho0 hb0;obtain⟨k,hk,rfl,ho,hb⟩:=hrel;by_cases hlt:k<43
  ·have hbs:=hb.size;have hlt':(k:Int)<43:=by omega
   go_wp2_with fail;refine(Dp _ _ _ (by omega) (by omega) (by omega) (by omega)).mono ?_;rintro e w1 ⟨rfl,rfl⟩;obtain⟨y,hy⟩:∃y:Int,y=12+2*((44*(k:Int)+43*((m:Int)/2))%1118)+m%2:=⟨_,rfl⟩;rw[<-hy];have HY:Hid (y=qf m k):=zH hy;clear hy;have BC:=ja ho ((zB wr.heap.size wr).alloc (zl _) (.cells #[.int .i64 y] 3));have ER:=qJ wr [y] 3 (by simp);have hb6:=hb.alloc hbs (.cells #[.int .i64 y] 3);have yj:=hb6.size;clear ho hb;go_wp2_with (refine jH rfl _ _ rfl underlying31 infoI64 BC rfl ER rfl (by simp;omega) yj ?_;intro v7 w7 jl lH);have hb7:=hb6.grown lH yj (dW BC);rw[HY.out,<-ahs]at jl;clear hb6 BC ER lH;go_roundw;case rel=>exact⟨k+1,by omega,by go_num,jl,hb7⟩
   case measure=>simp[RowKit.intOf];omega
  ·obtain rfl:k=43:=by omega
   have hbs:=hb.size;go_wp2_with fail;refine(Dp _ _ _ (by omega) (by omega) (by omega) (by omega)).mono ?_;rintro e w1 ⟨rfl,rfl⟩;go_wp2_with fail;refine(Dp _ _ _ (by omega) (by omega) (by omega) (by omega)).mono ?_;rintro e w1 ⟨rfl,rfl⟩;obtain⟨y,hy⟩:∃y:Int,y=12+2*(1118+(m:Int)/2)+m%2:=⟨_,rfl⟩;obtain⟨z,hz⟩:∃z:Int,z=12+2*(1144+(m:Int)/2)+m%2:=⟨_,rfl⟩;rw[<-hy,<-hz];have HW:Hid (qw m=ql m 43++[y,z]):=zH (by rw[hy,hz];rfl);clear hy hz;have BC:=ja ho ((zB wr.heap.size wr).alloc (zl _) (.cells #[.int .i64 y,.int .i64 z] 3));have ER:=qJ wr [y,z] 3 (by simp);have hb6:=hb.alloc hbs (.cells #[.int .i64 y,.int .i64 z] 3);have yj:=hb6.size;clear ho hb;go_wp2_with (refine jH rfl _ _ rfl underlying31 infoI64 BC rfl ER rfl (by simp) yj ?_;intro v7 w7 jl lH);have hb7:=hb6.grown lH yj (dW BC);rw[<-HW.out]at jl;clear hb6 BC ER lH;go_ret2;exact⟨_,rfl,jl,hb7⟩
def sym(raw:List UInt8)(f x:Int):UInt8:=if x<f then 0 else G.ix raw x.toNat
def bu(raw:List UInt8)(ws:List Int)(f:Int):List UInt8:=ws.map (sym raw f)
theorem aO(raw:List UInt8)(ws:List Int)(f:Int):(bu raw ws f).length=ws.length:=by simp[bu]
theorem jW(raw:List UInt8)(ws:List Int)(f:Int)(i:Nat)(h:i<ws.length):G.ix (bu raw ws f) i=sym raw f (aI ws i):=by simp[bu,G.ix,aI,h]
def tk(raw:List UInt8)(ws:List Int)(f:Int):Nat->List UInt8
 |0=>List.replicate ws.length 0
 |k+1=>if aI ws k<f then tk raw ws f k else(tk raw ws f k).set k (G.ix raw (aI ws k).toNat)
theorem ni(raw:List UInt8)(ws:List Int)(f:Int):∀k,(tk raw ws f k).length=ws.length
 |0=>by simp[tk]
 |k+1=>by unfold tk;split <;> simp[ni raw ws f k]
theorem ug(l:List UInt8)(k i:Nat)(c:UInt8)(h:k<l.length):G.ix (l.set k c) i=if i=k then c else G.ix l i:=by
 unfold G.ix;simp only[Ya];by_cases e:i=k
 ·subst e;simp[h]
 ·rw[zi e,XO (Vb e)]
theorem aix(raw:List UInt8)(ws:List Int)(f:Int):∀(k i:Nat),k<=ws.length->G.ix (tk raw ws f k) i=if i<k then sym raw f (aI ws i) else 0
 |0,i,_=>by rw[zi (by omega)];unfold tk G.ix;by_cases h:i<ws.length <;> simp[h]
 | k+1,i,hk=>by
   have ih:=aix raw ws f k i (by omega);unfold tk;by_cases hf:aI ws k<f
   ·rw[zj hf,ih];by_cases e:i=k
    ·subst e;rw[zi (by omega),zj (by omega)];simp[sym,hf]
    ·by_cases h:i<k
     ·rw[zj h,zj (by omega)]
     ·rw[zi h,zi (by omega)]
   ·rw[zi hf,ug _ _ _ _ (by rw[ni];omega),ih];by_cases e:i=k
    ·subst e;rw[zj rfl,zj (by omega)];simp[sym,hf]
    ·rw[zi e];by_cases h:i<k
     ·rw[zj h,zj (by omega)]
     ·rw[zi h,zi (by omega)]
theorem aks(raw:List UInt8)(ws:List Int)(f:Int):tk raw ws f ws.length=bu raw ws f:=by
 apply G.jR
 ·rw[ni,aO]
 ·intro i hi;rw[ni]at hi;rw[aix raw ws f _ i (zl _),zj hi,jW _ _ _ _ hi]
theorem take_any(rv:Value)(raw:List UInt8)(wv:Value)(ws:List Int)(f:Int)(w:World)(hr:Rd w rv raw)(hw:lu w wv ws)(hl:ws.length<=1000)(hb:∀x∈ws,0<=x/\x<raw.length):
 Calls prog 168 #[rv,wv,.int .i64 f] w λe w'=>e=.returned (.string (str (bu raw ws f)))/\Below w.heap.size w w':=by
 obtain⟨hr0,ra,rc,rb,ro,rfl,hrc,adm⟩:=hr;obtain⟨hw0,⟨wa,wc,wb,wo,rfl,hwc,nP⟩,hwr⟩:=hw;have HR:=zH adm;have HW:=zH nP;have HB:Hid (∀k,k<ws.length->0<=aI ws k/\aI ws k<raw.length):=zH λk hk=>hb _ (di hk)
 clear adm nP hwr hb;go_enter func168,ntmps168;go_wp2_with (refine fM (base:=w.heap.size) rfl _ _ rfl underlying65 infoU8 ws.length rfl rfl rfl rfl (by omega) (zl _) ?_;intro w1 hown1 PQ);have hb1:Below w.heap.size w w1:=(zB _ _).grown PQ (zl _) (by simp);have hr1:Row w1 5 w.heap.size ws.length (tk raw ws f 0):=Row.cells hown1;clear hown1 PQ
 go_loopw [15] (λvk wr=>∃k:Nat,k<=ws.length/\vk=.int .i64 k/\Row wr 5 w.heap.size ws.length (tk raw ws f k)/\Below w.heap.size w wr) (λvk _=>ws.length-(RowKit.intOf vk).toNat)
 case atStart=>exact⟨0,by omega,rfl,hr1,hb1⟩
 case round=>
  clear hr1 hb1;obtain⟨k,hk,rfl,hr,hb⟩:=hrel;by_cases hlt:k<ws.length
  ·obtain⟨ha,hcw⟩:=HW.out k hlt;obtain⟨hx1,hx2⟩:=HB.out k hlt;have HK:Hid (tk raw ws f (k+1)=if aI ws k<f then tk raw ws f k else(tk raw ws f k).set k (G.ix raw (aI ws k).toNat)):=zH rfl;obtain⟨j,hj⟩:∃j:Nat,aI ws k=j:=⟨(aI ws k).toNat,by omega⟩;rw[hj]at hcw hx1 hx2;have HJ:=zH hj;clear hj;have hj2:j<raw.length:=by omega
   obtain⟨ha2,hcr⟩:=HR.out j hj2;have alV:wr.cell? ⟨wb,wo+k,none⟩=some (.int .i64 j):=(hb.cell (p:=⟨wb,wo+k,none⟩) (zc w _ hcw)).trans hcw;have ao6:wr.cell? ⟨rb,ro+j,none⟩=some (B (G.ix raw j)):=(hb.cell (p:=⟨rb,ro+j,none⟩) (zc w _ hcr)).trans hcr;have hix:=bJ (P:=prog) underlying31 sizeInt (cap:=wc) ha hlt _ rfl wr;have hiy:=bJ (P:=prog) underlying65 sizeU8 (cap:=rc) ha2 hj2 _ rfl wr;have hc:=hr.cell k (by rw[ni];exact hlt);have hf:=hr.frozen k hlt;have hst:=hr.store k (G.ix raw j) (by rw[ni];exact hlt);have alN:=hb.setCell (p:=⟨w.heap.size,k,none⟩) (zl _) (B (G.ix raw j));have Ha:=zH ha;clear ha;have Ha2:=zH ha2;clear ha2 hcw hcr;by_cases hge:(j:Int)<f
   ·have hd:decide (f<=(j:Int))=false:=by simp;omega
    rw[HJ.out,zj hge]at HK;clear hst alN;go_wp2_with fail;go_roundw;case rel=>exact⟨k+1,by omega,by go_num,by rw[HK.out];exact hr,hb⟩
    case measure=>simp[RowKit.intOf];omega
   ·have hd:decide (f<=(j:Int))=true:=by simp;omega
    rw[HJ.out,zi hge,Yw]at HK;have hge':f<=(j:Int):=by omega
    clear hge;go_wp2_with fail;go_roundw;case rel=>exact⟨k+1,by omega,by go_num,by rw[HK.out];exact hst,alN⟩
    case measure=>simp[RowKit.intOf];omega
  ·obtain rfl:k=ws.length:=by omega
   rw[aks]at hr;have hrd:Rd wr (.slice (some ⟨w.heap.size,0,none⟩) ws.length ws.length) (bu raw ws f):=by have:=hr.rd (by rw[aO];omega);rwa[aO]at this
   have hcx:=eX (P:=prog) underlying65 underlying5 underlying9 hrd;clear hr hrd;go_wp2_with fail;go_ret;exact⟨rfl,hb⟩
def abS(g:Nat)(w:World)(v:Value)(l:List Int):Prop:=∀W:World,(∀k,k<w.heap.size->k≠g->W.heap[k]? = w.heap[k]?)->lu W v l
theorem abS.rd{g:Nat}{w:World}{v:Value}{l:List Int}(h:abS g w v l):lu w v l:=h w λ_ _ _=>rfl
theorem yJ{g base e n:Nat}{w:World}{v:Value}{l:List Int}(h:w.ownsRow base e 1 v n (is l))(hg:g<base)(hn:l.length=n)(hl:n<=17592186044416)(hr:∀x∈l,-9223372036854775808<=x/\x<=9223372036854775807):abS g w v l:=λW hW=>by
 refine lh (w:=W) (base:=base) (e:=e) ⟨h.1,?_⟩ hn hl hr;rcases h.2 with h2|⟨b,cap,cur,h1,h2,h3,h4⟩
 ·exact .inl h2
 ·exact .inr ⟨b,cap,cur,h1,h2,(hW b (Yd.1 h3).1 (by omega)).trans h3,h4⟩
theorem EI{w W:World}{r:Option Nat}(h:w.grownBy W r)(n:Nat):w.grownBy (W.drewN n) r:=⟨h.1,h.2,h.3,h.4,h.5⟩
theorem tZ{w W:World}{g:Nat}(h:w.grownBy W (some g))(j:Nat)(v:Value):w.grownBy (W.setCell ⟨g,j,none⟩ v) (some g):=
 ⟨h.1,h.2,h.3,by have:=h.4;simpa using this,λk hk hne=>(zh W ⟨g,j,none⟩ v k (λe=>hne (Yp some e))).trans (h.5 k hk hne)⟩
def Jz(raw:List UInt8)(ws:List Int)(f:Int)(s:List UInt8):Nat->List UInt8
 |0=>raw
 |k+1=>if aI ws k<f then Jz raw ws f s k else(Jz raw ws f s k).set (aI ws k).toNat (G.ix s k)
def pkB(raw:List UInt8)(ws:List Int)(f:Int)(s:List UInt8):Nat->Bool
 |0=>false
 |k+1=>if aI ws k<f then pkB raw ws f s k else pkB raw ws f s k || !decide (G.ix (Jz raw ws f s k) (aI ws k).toNat=G.ix s k)
theorem rG(raw:List UInt8)(ws:List Int)(f:Int)(s:List UInt8):∀k,(Jz raw ws f s k).length=raw.length
 |0=>rfl
 |k+1=>by unfold Jz;split <;> simp[rG raw ws f s k]
def IB(raw:List UInt8)(ws:List Int)(f:Int)(s:List UInt8):List UInt8:=Jz raw ws f s ws.length
def aen(raw:List UInt8)(ws:List Int)(f:Int)(s:List UInt8):Bool:=pkB raw ws f s ws.length
theorem BM(raw:List UInt8)(ws:List Int)(f:Int)(s:List UInt8):(IB raw ws f s).length=raw.length:=rG _ _ _ _ _
def ai3(e0 g cap:Nat)(raw:List UInt8)(ws:List Int)(f:Int)(s:List UInt8)(w:World)(e:Ending)(w':World):Prop:=
 e=.returned (.bool (aen raw ws f s))/\Row w' e0 g cap (IB raw ws f s)/\w.grownBy w' (some g)
theorem put_any(g n cap:Nat)(raw:List UInt8)(wv:Value)(ws:List Int)(f:Int)(s:List UInt8)(w:World)(hn:n=raw.length)(hrow:Row w 5 g cap raw)(hw:abS g w wv ws)(hl:ws.length<=1000)(hb:∀x∈ws,0<=x/\x<raw.length)(hs:ws.length<=s.length):
 Calls prog 170 #[.slice (some ⟨g,0,none⟩) n cap,wv,.int .i64 f,.string (str s)] w (ai3 5 g cap raw ws f s w):=by
 have HB:Hid (∀k,k<ws.length->0<=aI ws k/\aI ws k<n):=zH λk hk=>by rw[hn];exact hb _ (di hk)
 have HN:=zH hn;have HS:=zH hs;obtain⟨hw0,⟨wa,wc,wb,wo,rfl,hwc,_⟩,_⟩:=hw.rd;have hncap:n<=cap:=by rw[hn];exact hrow.le
 have aiS:=zH hw;clear hn hb hs hw;go_enter func170,ntmps170;go_wp2_with fail
 go_loopw [9,14] (λvc vk wr=>∃k:Nat,k<=ws.length/\vk=.int .i64 k/\vc=.bool (pkB raw ws f s k)/\Row wr 5 g cap (Jz raw ws f s k)/\w.grownBy wr (some g)) (λ_ vk _=>ws.length-(RowKit.intOf vk).toNat)
 case atStart=>exact⟨0,by omega,rfl,rfl,hrow,World.grownBy.refl _ _⟩
 case round=>
  clear hrow;obtain⟨k,hk,rfl,rfl,hr,hb⟩:=hrel;by_cases hlt:k<ws.length
  ·have hwr:lu wr (.slice wa ws.length wc) ws:=aiS.out wr λj hj hjg=>hb.block j hj (λe=>hjg (zs e))
   obtain⟨_,⟨a2,c2,b2,o2,hv2,_,hcell⟩,_⟩:=hwr;injection hv2 with e1 e2 e3
   subst e1 e3;obtain⟨ha,hcw⟩:=hcell k hlt;obtain⟨hx1,hx2⟩:=HB.out k hlt;clear hcell e2;have HK:Hid (Jz raw ws f s (k+1)=if aI ws k<f then Jz raw ws f s k else(Jz raw ws f s k).set (aI ws k).toNat (G.ix s k)):=zH rfl;have HKB:Hid (pkB raw ws f s (k+1)=if aI ws k<f then pkB raw ws f s k else pkB raw ws f s k || !decide (G.ix (Jz raw ws f s k) (aI ws k).toNat=G.ix s k)):=zH rfl;have hl2:=rG raw ws f s k;generalize Jz raw ws f s k=R at *;generalize pkB raw ws f s k=bb at *;obtain⟨j,hj⟩:∃j:Nat,aI ws k=j:=⟨(aI ws k).toNat,by omega⟩;rw[hj]at hcw hx1 hx2 HK HKB;have HJ:=zH hj;clear hj;rw[Yw]at HK HKB;have hj2:j<n:=by omega
   have hjR:j<R.length:=by rw[hl2,<-HN.out];exact hj2
   have hix:=bJ (P:=prog) underlying31 sizeInt (cap:=wc) ha hlt _ rfl wr;have hc:=hr.cell j hjR;have hf:=hr.frozen j (by omega);have HL2:=zH hl2;clear hl2;have Ha:=zH ha;clear ha;by_cases hge:(j:Int)<f
   ·have hd:decide (f<=(j:Int))=false:=by simp;omega
    rw[zj hge]at HK HKB;go_wp2_with fail;go_roundw;case rel=>exact⟨k+1,by omega,by go_num,by rw[HKB.out],by rw[HK.out];exact hr,hb⟩
    case measure=>simp[RowKit.intOf];omega
   ·have hd:decide (f<=(j:Int))=true:=by simp;omega
    rw[zi hge]at HK HKB;have hge':f<=(j:Int):=by omega
    clear hge;have hi1:=λwx=>oh (P:=prog) underlying9 s k (by have:=HS.out;omega) _ rfl wx
    have hcb:(((G.ix R j).toNat:Int) != ((G.ix s k).toNat:Int)) = !decide (G.ix R j=G.ix s k):=by rw[Ea];simp
    generalize hch:(!decide (G.ix R j=G.ix s k))=ch at hcb HKB;have HCH:=zH hch;clear hch;have HSt:=zH (hr.store j (G.ix s k) hjR);cases bb with
    | true=>
      go_wp2_with fail;go_quiet (fail);have hr3:Row (wr.drewN nq) 5 g cap R:=hr;have hb3:w.grownBy (wr.drewN nq) (some g):=EI hb nq;generalize wr.drewN nq=w2 at hr3 hb3 ⊢;have hc3:=hr3.cell j hjR;have hf3:=hr3.frozen j (by omega);have HSt:=zH (hr3.store j (G.ix s k) hjR);have HBt:Hid (w.grownBy (w2.setCell ⟨g,j,none⟩ (B (G.ix s k))) (some g)):=zH (tZ hb3 j _);clear hr3 hb3 hr hb hc hf;go_wp2_with fail;go_roundw;case rel=>exact⟨k+1,by omega,by go_num,by rw[HKB.out];rfl,by rw[HK.out];exact HSt.out,HBt.out⟩
      case measure=>simp[RowKit.intOf];omega
    | false=>
      go_wp2_with fail;go_quiet (fail);have hr3:Row (wr.drewN nq) 5 g cap R:=hr;have hb3:w.grownBy (wr.drewN nq) (some g):=EI hb nq;generalize wr.drewN nq=w2 at hr3 hb3 ⊢;have hc3:=hr3.cell j hjR;have hf3:=hr3.frozen j (by omega);have HSt:=zH (hr3.store j (G.ix s k) hjR);have HBt:Hid (w.grownBy (w2.setCell ⟨g,j,none⟩ (B (G.ix s k))) (some g)):=zH (tZ hb3 j _);clear hr3 hb3 hr hb hc hf;go_wp2_with fail;go_roundw;case rel=>exact⟨k+1,by omega,by go_num,by rw[HKB.out];rfl,by rw[HK.out];exact HSt.out,HBt.out⟩
      case measure=>simp[RowKit.intOf];omega
  ·obtain rfl:k=ws.length:=by omega
   go_wp2_with fail;go_ret;exact⟨rfl,hr,hb⟩
end W8
namespace W8
open Go.RowKit Go.Shelf
attribute [local go_sem] Oper.semAt_some
theorem uh{W W':World}{row:Option Nat}{g:Nat}{cs:Array Value}{t:TypeId}{fz:Nat×Nat}(h:W.heap[g]? = some (.cells cs t fz))(hg:W.grownBy W' row)(hr:∀r,row=some r->∃o:Obj,W.heap[r]? = some o/\o.isCells=false):W'.heap[g]? = some (.cells cs t fz):=
 (hg.block g (Yd.1 h).1 (λe=>by
  obtain⟨o,ho,hc⟩:=hr g e.symm;rw[h]at ho;obtain rfl:=zs ho;cases hc)).trans h
theorem abr(B base e sz n:Nat)(v:Value)(xs:List Value):bD B λW=>W.ownsRow base e sz v n xs:=λ_ W W' row h hg hr=>by
 refine⟨h.1,?_⟩;rcases h.2 with h2|⟨b,cap,cur,h1,h2,h3,h4⟩
 ·exact .inl h2
 ·exact .inr ⟨b,cap,cur,h1,h2,uh h3 hg (λr e=>(hr r e).2),h4⟩
theorem A7(B e g cap:Nat)(l:List UInt8):bD B λW=>Row W e g cap l:=λ_ W W' row h hg hr=>by obtain⟨cur,fz,h1,h2⟩:=h;exact⟨cur,fz,uh h1 hg (λr e=>(hr r e).2),h2⟩
theorem dh(B g t:Nat)(cs:List Value):bD B λW=>Bx W g t cs:=λ_ W W' row h hg hr=>uh h hg (λr e=>(hr r e).2)
theorem iU{n₀ B:Nat}{w₀:World}(hn:n₀<=w₀.heap.size)(hB:n₀<=B):bD B λW=>Below n₀ w₀ W:=ownFrom_below hn hB
theorem lJ{B:Nat}{W W':World}(hb:Below W.heap.size W W'):KeepsFrom B W W':=⟨hb.size,λk o _ hk _=>(hb.block k (Yd.1 hk).1).trans hk⟩
theorem E5(B:Nat)(W:World)(p:Addr)(v:Value):KeepsFrom B W (W.setCell p v):=(KeepsOthers.setCell W p v).from B
def GW(B:Nat)(k:Nat)(v:Value)(W:World):Prop:=W.ownsRow B 3 1 v (wd k).length (is (wd k))
theorem GW.stays(B0 B k:Nat)(v:Value):bD B0 (GW B k v):=abr _ _ _ _ _ _ _
theorem uD(n:Nat)(hn:2<=n)(w:World):Gives Fence.wide n prog 248 #[] 138 (GW w.heap.size) w:=λl J Jx W hW hJ hY h0=>by
 refine callsIn_of_wp func248 rfl trivial ?_ rfl;simp only[ntmps248,Xh,Yn,YC,Nat.reduceAdd,Nat.reduceSub,Xi,Xj,Xv,Xn,YV,Xr];have hW0:=hW.size;have hn1:1<=n:=by omega
 have hn2:1<=n-1:=by omega
 clear hW;gi_wp2
 gi_loopw [8] (λi wr=>∃k:Nat,k<=86/\i=.int .i64 k/\J k wr/\w.heap.size<=wr.heap.size) (λi _=>86-(RowKit.intOf i).toNat)
 case atStart=>exact⟨0,by omega,rfl,h0,hW0⟩
 case round=>
  obtain⟨k,hk,rfl,hJk,hs⟩:=hrel;clear h0 hW0;by_cases hlt:k<86
  ·have hlt':(k:Int)<86:=by omega
   have hG:∀(v:Value)(w1:World),w1.ownsRow wr.heap.size 3 1 v 26 (is (pw k))->GW w.heap.size k v w1:=λv w1 ho=>by have e:wd k=pw k:=zj hlt;unfold GW;rw[e,JG];exact iQ ho hs
   have HG:=zH hG;clear hG
   gi_wp2_with (refine⟨trivial,?_⟩;gi_at_call 249;refine(callsIn_wide.2 (aer k _ _ rfl hlt)).mono ?_;rintro e w1 ⟨v,rfl,ho,hb⟩;have hs1:=hb.size;obtain⟨fn,tmps,assign,body,hy,hR⟩:=hY k v w1 (by omega) (hJ k wr w1 hJk hb) (HG.out v w1 ho);clear ho hb)
   refine hR.mono ?_;rintro e W3 (⟨rfl,hJ3,hs3⟩|⟨rfl,hJx3⟩)
   ·gi_wp2;go_roundw;case rel=>exact⟨k+1,by omega,by go_num,hJ3,by omega⟩
    case measure=>simp[RowKit.intOf];omega
   ·gi_wp2;exact zr (results_none rfl _ _ _) rfl ⟨⟨_,rfl⟩,.inr hJx3⟩
  ·obtain rfl:k=86:=by omega
   rw[show((86:Nat):Int)=86 from rfl];gi_wp2
   gi_loopw [21] (λi wr=>∃k:Nat,k<=52/\i=.int .i64 k/\J (86+k) wr/\w.heap.size<=wr.heap.size) (λi _=>52-(RowKit.intOf i).toNat)
   case atStart=>exact⟨0,by omega,rfl,hJk,hs⟩
   case round=>
    clear hJk hs hlt;obtain⟨k,hk,rfl,hJk,hs⟩:=hrel;by_cases hlt:k<52
    ·have hlt':(k:Int)<52:=by omega
     have hG:∀(v:Value)(w1:World),w1.ownsRow wr.heap.size 3 1 v 45 (is (qw k))->GW w.heap.size (86+k) v w1:=λv w1 ho=>by
      have e:wd (86+k)=qw k:=by unfold wd;rw[zi (by omega)];congr 1 <;> omega
      unfold GW;rw[e,JI];exact iQ ho hs
     have HG:=zH hG;clear hG
     gi_wp2_with (refine⟨trivial,?_⟩;gi_at_call 250;refine(callsIn_wide.2 (aes k _ _ rfl hlt)).mono ?_;rintro e w1 ⟨v,rfl,ho,hb⟩;have hs1:=hb.size;obtain⟨fn,tmps,assign,body,hy,hR⟩:=hY (86+k) v w1 (by omega) (hJ _ _ w1 hJk hb) (HG.out v w1 ho);clear ho hb)
     refine hR.mono ?_;rintro e W3 (⟨rfl,hJ3,hs3⟩|⟨rfl,hJx3⟩)
     ·gi_wp2;go_roundw;case rel=>exact⟨k+1,by omega,by go_num,hJ3,by omega⟩
      case measure=>simp[RowKit.intOf];omega
     ·gi_wp2;exact zr (results_none rfl _ _ _) rfl ⟨⟨_,rfl⟩,.inr hJx3⟩
    ·obtain rfl:k=52:=by omega
     gi_wp2;go_end0;exact⟨⟨_,rfl⟩,.inl hJk⟩
end W8
namespace C9
open Go.RowKit W8
def d1:List UInt8:=1::List.replicate 23 0
end C9
namespace C9
open Go.ChangeShapes Go.WideShapes Go.RowKit Go.Deep W8
section
variable {H:Type} {enc:TypeId×Value->H} {w:World} {base b0:Nat} {sp:Nat->Bool} {held:Bool}
theorem cellsSc:prog.cellsOf 78=2:=by kernel_rfl
theorem cellsI9:prog.cellsOf 3=1:=by kernel_rfl
theorem abg(n:Nat)(cs:List Value)(x:DataW H×List MemPlace)(h:DataW.trod enc prog w base sp held n 78 cs=some x):∃t:Sc,cs=scc t/\Wf t:=by
 obtain⟨ys,n',_,_,hlen,hyl,hf⟩:=DataW.trod_struct underlying78 h;rw[cellsSc]at hlen
 match cs,hlen with
 | [c0,c1],_=>
   have g0:DataW.trod enc prog w base sp held n' 3 (([c0,c1].drop 0).take (prog.cellsOf 3))=ys[0]?:=hf 0 _ rfl;have g1:DataW.trod enc prog w base sp held n' 3 (([c0,c1].drop 1).take (prog.cellsOf 3))=ys[1]?:=hf 1 _ rfl;rw[cellsI9]at g0 g1;simp only[List.drop,List.take]at g0 g1;obtain⟨a0,e0,w0⟩:=Qg underlying3 g0 (Y8 hyl (by decide));obtain⟨a1,e1,w1⟩:=Qg underlying3 g1 (Y8 hyl (by decide));simp only[List.cons.injEq,and_true]at e0 e1;subst e0 e1;exact⟨⟨a0,a1⟩,rfl,w0,w1⟩
def jw(w:World)(v:Value)(l:List Sc):Prop:=xH w v l/\(∀i,i<l.length->Wf (Q3 l i))/\l.length<=9223372036854775807
theorem UF{v:Value}{d:DataW H}{ps:List MemPlace}{r:Reach}(hval:Value.okWide prog w r b0 27 v)(hd:DataW.Trod enc prog w base sp held 27 v d ps):∃l,jw w v l:=by obtain⟨a,len,cap,rfl⟩:=okWide_slice underlying27 hval;obtain⟨fuel,hf⟩:=hd;obtain⟨l,h1,h2,h3⟩:=Qw scz scc Wf underlying27 cellsSc (by omega) (λn cs x h=>abg n cs x h) (by simpa[Value.cells]using hf);exact⟨l,h1,h3,h2⟩
end
theorem aaK(d:Int)(v:Value)(l:List Sc)(w:World)(h:jw w v l):Calls prog 95 #[.int .i64 d,v] w (xG (vS d l) w):=by
 obtain⟨hr,hwf,hl⟩:=h;unfold vS;by_cases hd:d<1\/401408<d
 ·rw[zj hd];exact QG d v l w hr hd
 ·rw[zi hd];obtain⟨n,rfl⟩:∃n:Nat,d=n:=⟨d.toNat,by omega⟩;exact aef n v l w (by omega) (by omega) hr hwf hl
theorem jw.keep{w w':World}{v:Value}{l:List Sc}(h:jw w v l)(hb:Below w.heap.size w w'):jw w' v l:=⟨dB.keep h.1 hb,h.2⟩
theorem adN(d:Int)(l:List Sc):(vS d l).1.length<=11300000/\∀x∈(vS d l).1,-9223372036854775808<=x/\x<=9223372036854775807:=by
 unfold vS;split
 ·simp
 ·split
  ·simp
  ·have h1:=mG l d.toNat;refine⟨by simp only;omega,λx hx=>?_⟩;have:=yD l d.toNat x hx;omega
theorem xG.rd{d:Int}{l:List Sc}{w w':World}{e:Ending}(h:xG (vS d l) w e w'):∃v,e=.returned (.tuple #[v,.int .i64 (vS d l).2])/\lu w' v (vS d l).1/\Below w.heap.size w w':=by obtain⟨v,he,ho,hb⟩:=h;obtain⟨h1,h2⟩:=adN d l;exact⟨v,he,lh ho rfl (by omega) h2,hb⟩
end C9
namespace C9
open Go.RowKit W8
def Dw(F:List (List UInt8))(m:Nat->Bool):List (List UInt8):=(List.range F.length).map λg=>if m g=true then [] else frA F g
theorem jD(F:List (List UInt8))(m:Nat->Bool):(Dw F m).length=F.length:=by simp[Dw]
theorem AB{F:List (List UInt8)}{m m':Nat->Bool}(h:∀g,g<F.length->m g=m' g):Dw F m=Dw F m':=Xo λg hg=>by rw[h g (Yx.1 hg)]
theorem ahD(F:List (List UInt8))(m:Nat->Bool)(k:Nat):(Dw F m).set k []=Dw F (λg=>m g || g == k):=by
 apply YS;intro g;rw[YP,jD];by_cases hg:g<F.length
 ·by_cases hk:k=g
  ·subst hk;rw[zj rfl,zj hg];simp[Dw,hg]
  ·rw[zi hk];have hk':¬ g=k:=λh=>hk h.symm
   simp[Dw,hg,hk']
 ·rw[Yh (l:=Dw F _) (by rw[jD];omega),Yh (l:=Dw F _) (by rw[jD];omega)];split
  ·rw[zi (by omega)]
  ·rfl
theorem aeI(F:List (List UInt8)):Dw F (pU [])=F:=by
 apply Xt
 ·rw[jD]
 ·intro i h1 h2;simp[Dw,pU,frA,h2]
def cvX(l:List Sc)(s:Sc)(i:Nat)(g:Nat):Bool:=pU l g || xR s i g
theorem aeK(F:List (List UInt8))(l:List Sc)(s:Sc):Dw F (cvX l s 0)=Dw F (pU l):=AB λg _=>by
 have:xR s ((0:Nat):Int) g=false:=by
  unfold xR;rw[Xy];by_cases h:s.f<=(g:Int)
  ·right;rw[Yv];omega
  ·left;rw[Yv];exact h
 show(pU l g || xR s ((0:Nat):Int) g)=pU l g;rw[this,Bool.or_false]
theorem aeJ(F:List (List UInt8))(l:List Sc)(s:Sc)(i k:Nat)(hk:(k:Int)=s.f+i):(Dw F (cvX l s i)).set k []=Dw F (cvX l s (i+1)):=by
 rw[ahD];refine AB λg _=>?_
 unfold cvX;rw[Bool.or_assoc]
 congr 1
 rw[YJ];simp only[xR,Xq,Yt,Yj,YG];omega
theorem ahC(F:List (List UInt8))(l:List Sc)(s:Sc)(i:Nat)(hi:(i:Int)=s.c):Dw F (cvX l s i)=Dw F (pU (l++[s])):=AB λg _=>by rw[PL,<-hi];rfl
def Q4(F:List (List UInt8))(l:List Sc):List (List UInt8)×Int:=if lU F.length l=false then([],1) else(aoP F l,0)
theorem Nc(va:Value)(F:List (List UInt8))(v:Value)(l:List Sc)(w:World)(hF:fQ w va F)(hn:F.length<=1000000)(h:jw w v l):
 Calls prog 93 #[va,v] w (Om (Q4 F l) w):=by
 obtain⟨hr,hwf,hl⟩:=h;obtain⟨aF,cF,rfl,_⟩:=dB.form hF;obtain⟨a,c,rfl,hac⟩:=dB.form hr;obtain⟨b0,off,hcell⟩:=dB.at hr;have HC:=zH hcell;clear hcell;have HW:=zH hwf;clear hwf;have N7:Hid (∀k,k<l.length->jJ F.length (Q3 l k)=false->Q4 F l=([],1)):=zH λk hk h=>by unfold Q4;rw[ED hk h,zj rfl]
 have Zv:Hid (TQ F.length l l.length->Q4 F l=(Dw F (pU l),0)):=zH λh=>by unfold Q4;rw[Jm h,zi (by decide)];rfl
 generalize Q4 F l=RES at *;obtain⟨N,hN⟩:∃N,N=F.length:=⟨_,rfl⟩;have HN:=zH hN;have hoF:(w.alloc (.cells #[] 9)).ownsRow w.heap.size 9 1 (.slice (some ⟨w.heap.size,0,none⟩) 0 0) 0 (fH uY []):=Xc w #[] 0 (zl _) (by simp) (by simp);have hb0:Below w.heap.size w (w.alloc (.cells #[] 9)):=(zB _ _).alloc (zl _) _;have hrF:=dB.keep hF hb0;have ajI:=hb0.size;rw[<-hN]at hn N7 Zv ⊢;rw[<-hN]at hrF;clear hr hF hN;go_enter func93,ntmps93;go_wp2_with (at_builtin;refine BZ rfl _ _ rfl underlying45 infoStr9 rfl (by omega) jb ahM hoF rfl hrF rfl (by rw[<-HN.out];unfold maxLen;omega) (by rw[<-HN.out];omega) ajI ?_;intro v1 w1 ho1 hg1);have hb1:=hb0.grown hg1 ajI (bH hoF);rw[Yf,YV]at ho1;rw[<-aeI F]at ho1;clear hoF hb0 hrF ajI hg1;obtain⟨ao,co,rfl⟩:=aS ho1;rw[jD,<-HN.out]at ho1 ⊢
 go_loopw [15] (λvk wr=>∃k:Nat,k<=l.length/\vk=.int .i64 k/\Hid (TQ N l k)/\wr.ownsRow w.heap.size 9 1 (.slice ao N co) N (fH uY (Dw F (pU (l.take k))))/\Below w.heap.size w wr) (λvk _=>l.length-(RowKit.intOf vk).toNat)
 case atStart=>exact⟨0,by omega,rfl,zH λm hm=>by omega,ho1,hb1⟩
 case round=>
  clear ho1 hb1;obtain⟨k,hk,rfl,HO,ho,hb⟩:=hrel;obtain⟨wo,rfl⟩:∃wo:World,wo=wr:=⟨_,rfl⟩;have hbs:=hb.size;by_cases hlt:k<l.length
  ·obtain⟨ha,hrange⟩:=HC.out k hlt;have HT:=zH (Gp hlt);have RY:=zH (N7.out k hlt);have Md:=HW.out k hlt;have HS:Hid (jJ N (Q3 l k)=true->TQ N l (k+1)):=zH λh m hm=>by
    by_cases e:m<k
    ·exact HO.out m e
    ·have:m=k:=by omega
     rw[this];exact h
   change w.rangeAt b0 (off+k*2) (scc (Q3 l k)) at hrange;generalize Q3 l k=x at *;obtain⟨xf,xc⟩:=x;have hrg:wo.rangeAt b0 (off+k*2) (scc ⟨xf,xc⟩):=λj u hu=>(hb.cell (p:=⟨b0,off+k*2+j,none⟩) (zc w _ (hrange j u hu))).trans (hrange j u hu)
   clear hrange;obtain⟨hc0,hc1⟩:=rd2 hrg;clear hrg;simp only at hc0 hc1;have hix:=λw'=>aB underlying27 sizeSc (cap:=c) ha hlt _ rfl w'
   have Ha:=zH ha;clear ha;have hA:=(zB wo.heap.size wo).alloc (zl _) (.cells #[.int .i64 xf,.int .i64 xc] 78);have HA:=zH hA;have HSB:=zH (Bx.new wo 78 [.int .i64 xf,.int .i64 xc]);have HOO:=zH ho;have IY:=zH ho;clear hA ho;go_wp2_with fail;refine(fits_any xf xc N _ Md (by omega)).mono ?_;rintro e w1 ⟨rfl,hb1⟩;have hbA:=HA.out.trans (hb1.mono HA.out.size);have ho1:=aV HOO.out hbA;have jB:=HSB.out.call hb1;have Ue:=hb.trans (hbA.mono hbs);obtain⟨q,hq⟩:∃q,q=jJ N ⟨xf,xc⟩:=⟨_,rfl⟩;rw[<-hq]at HS RY ⊢;obtain⟨⟨f1,f2⟩,c1,c2⟩:=Md;simp only at f1 f2 c1 c2;clear hc0 hc1 hb1 HA HSB hbA HOO;cases q with
   | false=>
     have hR:=RY.out rfl;subst hR;clear ho1 jB hq;go_wp2_with fail;go_ret2;exact Om.none 1 rfl Ue
   | true=>
     obtain⟨x1,x2,x3,x4⟩:=(tV _ _).1 hq.symm;simp only at x1 x2 x3 x4;have HS2:=zH (HS.out rfl);clear hq HS RY;obtain⟨fn,rfl⟩:∃fn:Nat,xf=(fn:Int):=⟨xf.toNat,by omega⟩;obtain⟨cn,rfl⟩:∃cn:Nat,xc=(cn:Int):=⟨xc.toNat,by omega⟩;obtain⟨sb,hsb⟩:∃sb,sb=wo.heap.size:=⟨_,rfl⟩;have hof:Off (.slice ao N co) (λq=>q=sb):=Off.own IY.out λq _ hq h=>by omega
     rw[<-hsb]at jB;simp only[<-hsb];clear hsb;have hd1:=jB.cell (i:=1) rfl;obtain⟨ga,hga⟩:∃ga,ao=some ⟨ga,0,none⟩:=by obtain⟨g,c',e,_,_⟩:=kQ ho1 (by omega);simp only[YT]at e;exact⟨g,e.1⟩
     have hgs:ga≠sb:=λh=>hof ga (by rw[hga];rfl) h
     have hwg:w.heap.size<=ga:=(ho1.lt ga (by rw[hga];rfl)).1;have HGA:=zH hga;clear hof hga IY;go_wp2_with fail
     go_loopw [26] (λvi wr=>∃j:Nat,j<=cn/\vi=.int .i64 j/\wr.ownsRow w.heap.size 9 1 (.slice ao N co) N (fH uY (Dw F (cvX (l.take k) ⟨fn,cn⟩ j)))/\Bx wr sb 78 [.int .i64 fn,.int .i64 cn]/\Below w.heap.size w wr) (λvi _=>cn-(RowKit.intOf vi).toNat)
     case atStart=>exact⟨0,by omega,rfl,by rw[aeK];exact ho1,jB,Ue⟩
     case round=>
      clear ho1 jB Ue hd1;obtain⟨j,hj,rfl,ho1,jB,Ue⟩:=hrel;have hd0:=jB.cell (i:=0) rfl;have hd1:=jB.cell (i:=1) rfl;by_cases hjt:j<cn
      ·have aok:(j:Int)<(cn:Int):=by omega
       have hkn:fn+j<N:=by omega
       have hlen:fn+j<(Dw F (cvX (l.take k) ⟨fn,cn⟩ j)).length:=by rw[jD,<-HN.out];exact hkn
       have ho2:=ho1;rw[HGA.out]at ho2;have hset:=Qz (d:=[]) jb ho2 (fn+j) 0 hlen (by omega) (.string ⟨#[]⟩) [] rfl;rw[aeJ F _ _ j (fn+j) (by simp only;omega)]at hset;have hcl:wr.cell? ⟨ga,fn+j,none⟩=some (.string (str (aJ [] (Dw F (cvX (l.take k) ⟨fn,cn⟩ j)) (fn+j)))):=by have:=(FC (d:=[]) jb ho2 (fn+j) hlen) 0 _ rfl;simpa using this
       have hfr:wr.frozen? ⟨ga,fn+j,none⟩=false:=ho2.frozenAt _;have hix2:=λw'=>aB underlying45 (by kernel_rfl:(prog.info? 9).map (·.size)=some 1) (cap:=co) HGA.out hkn ((fn:Int)+(j:Int)) (by omega) w'
       simp only[Yy,Yf,YO]at hix2 hset;generalize str (aJ [] (Dw F (cvX (l.take k) ⟨fn,cn⟩ j)) (fn+j))=old at hcl;rw[<-HGA.out]at hset;have KF:=zH hset;have Ic:=zH (jB.far (p:=⟨ga,fn+j,none⟩) hgs (.string ⟨#[]⟩));have HBW:=zH Ue;clear hset jB ho1 ho2 Ue hlen;go_wp2_with fail;go_roundw;case rel=>exact⟨j+1,by omega,by go_num,KF.out,Ic.out,HBW.out.setCell hwg _⟩
       case measure=>simp[RowKit.intOf];omega
      ·obtain rfl:j=cn:=by omega
       rw[ahC F (l.take k) ⟨fn,j⟩ j rfl,<-HT.out]at ho1;have HO1:=zH ho1;clear ho1 jB;go_wp2_with fail;go_roundw;case rel=>exact⟨k+1,by omega,by go_num,HS2,HO1.out,Ue⟩
       case measure=>simp[RowKit.intOf];omega
  ·obtain rfl:k=l.length:=by omega
   rw[YD]at ho;have hR:=Zv.out HO.out;subst hR;have HOO:=zH ho;clear ho;go_wp2_with fail;go_ret2;exact⟨_,rfl,by simp only[jD,<-HN.out];exact HOO.out,hb⟩
end C9
section
open Go.RowKit
section
variable {P:Program} {Q:Exit->Act->World->Prop}
def StepA(P:Program)(Q:Exit->Act->World->Prop)(R:Nat->World->World->Prop)(C:Nat->Act->World->Prop)(V:Nat->Value->World->Prop)(sk:Nat->Bool)(eff:Nat->Option Nat)(l:List Oper)(a0:Act)(i:Nat)(o:Oper):Prop:=
 ∀(r:Nat) a w,C r a w->a.tmps.size=a0.tmps.size->(∀t,gp l t=true->a.tmps.getD t undef=a0.tmps.getD t undef)->
   (∀k,(o.after.toList.any λe=>e.on == k && Region.binds .any e)=true->sk k=false->∀(ok:Oper),l[k]? = some ok->V k (gK ok.dst a) w)->
   (∀(j:Nat)(oj:Oper)(t:Tmp),l[j]? = some oj->oj.dst=some t->(oj.after.toList.any λe=>e.on == i && Region.binds .any e)=true->a.tmps.getD t undef=a0.tmps.getD t undef)->
   (∀j k,eff j=some k->reach l 3 i j=true->k<r)->(∀j k,eff j=some k->reach l 3 j i=true->r<=k)->(∀k,eff i=some k->k=r)->
   if sk i then Region.wanted o (yielded l.toArray a.tmps)=false
   else Region.wanted o (yielded l.toArray a.tmps)=true/\o.wp P a w (λa' w'=>∃v,a'=a.put o.dst v/\R r w w'/\(match eff i with|some _=>C (r+1) (a.put o.dst v) w'|none=>w'=w)/\V i (kept o.dst v) w') Q
def abU(P:Program)(Q:Exit->Act->World->Prop)(R:Nat->World->World->Prop)(C:Nat->Act->World->Prop)(V:Nat->Value->World->Prop)(sk:Nat->Bool)(eff:Nat->Option Nat)(l:List Oper)(a0:Act):Nat->List Oper->Prop:=Steps (StepA P Q R C V sk eff l a0)
theorem mY{R:World->World->Prop}{V:Nat->Value->World->Prop}{i:Nat}{o:Oper}{a:Act}{w:World}{v:Value}(hr:R w w)(hv:V i (kept o.dst v) w)(h:∀K:Act->World->Prop,K (a.put o.dst v) w->o.wp P a w K Q):
 o.wp P a w (λa' w'=>∃v,a'=a.put o.dst v/\R w w'/\w'=w/\V i (kept o.dst v) w') Q:=h _ ⟨v,rfl,hr,rfl,hv⟩
theorem uZ{R:World->World->Prop}{C:Act->World->Prop}{V:Nat->Value->World->Prop}{i:Nat}{o:Oper}{a:Act}{w:World}(h:∀K:Act->World->Prop,(∀v w',R w w'->C (a.put o.dst v) w'->V i (kept o.dst v) w'->K (a.put o.dst v) w')->o.wp P a w K Q):
 o.wp P a w (λa' w'=>∃v,a'=a.put o.dst v/\R w w'/\C (a.put o.dst v) w'/\V i (kept o.dst v) w') Q:=h _ λv w' h1 h2 h3=>⟨v,rfl,h1,h2,h3⟩
theorem startA{l:List Oper}{a0:Act}{w:World}(R:Nat->World->World->Prop)(C:Nat->Act->World->Prop)(V:Nat->Value->World->Prop)(sk:Nat->Bool)(eff:Nat->Option Nat)(n:Nat)(hf:kJ l a0.tmps.size=true)
 (hch:chainB l eff sk n=true)(hn:((List.range l.length).any λi=>eff i == some (n-1))=true\/n=0)
 (hC:∀r a w i (o:Oper) v,l[i]? = some o->eff i=none->C r a w->C r (a.put o.dst v) w)(hV:∀i r v w w',(∀k,eff i=some k->k<r)->R r w w'->V i v w->V i v w')(h0:C 0 a0 w.drew)
 (hstep:abU P Q R C V sk eff l a0 0 l)
 (hend:∀a w,C n a w->a.defers=a0.defers->a.tmps.size=a0.tmps.size->(∀t,gp l t=true->a.tmps.getD t undef=a0.tmps.getD t undef)->
  (∀(i:Nat)(o:Oper),l[i]? = some o->sk i=false->V i (gK o.dst a) w)->Q .normal a w):wpAny P .any l.toArray Q l.toArray.size (Array.replicate l.toArray.size false) a0 w.drew:=
 Gg R C (λi v _=>V i v) sk eff n hf hch hn (λr a w i o v ho he _ h=>hC r a w i o v ho he h) (λi r v _ w w'=>hV i r v w w') h0 (λi o ho r a w hc hs hold ah hu hl hh hk=>zu (hstep.at ho r a w hc hs hold ah hu hl hh hk) (Oper.wp_mono λa' w' ⟨v,e,hr,hc',hv⟩=>⟨v,e,hr,by
  cases he:eff i with
  | none=>
    rw[he]at hc';obtain rfl:w'=w:=hc';exact hC r a w' i o v ho he hc
  |some k=>rw[he]at hc';exact hc',hv⟩)) hend
theorem Gz{id:Nat}{l:List Oper}{a0:Act}{w:World}(hm:P.follows .mixedOrders=true)(R:Nat->World->World->Prop)(C:Nat->Act->World->Prop)(V:Nat->Value->World->Prop)(sk:Nat->Bool)(eff:Nat->Option Nat)(n:Nat)(hf:kJ l a0.tmps.size=true)
 (hch:chainB l eff sk n=true)(hn:((List.range l.length).any λi=>eff i == some (n-1))=true\/n=0)
 (hC:∀r a w i (o:Oper) v,l[i]? = some o->eff i=none->C r a w->C r (a.put o.dst v) w)(hV:∀i r v w w',(∀k,eff i=some k->k<r)->R r w w'->V i v w->V i v w')(h0:C 0 a0 w.drew)
 (hstep:abU P Q R C V sk eff l a0 0 l)
 (hend:∀a w,C n a w->a.defers=a0.defers->a.tmps.size=a0.tmps.size->(∀t,gp l t=true->a.tmps.getD t undef=a0.tmps.getD t undef)->
  (∀(i:Nat)(o:Oper),l[i]? = some o->sk i=false->V i (gK o.dst a) w)->Q .normal a w):(Code.region id l.toArray true).wp P Q a0 w:=wp_region_any hm (startA R C V sk eff n hf hch hn hC hV h0 hstep hend)
end
def MG(l:List Oper)(eff:Nat->Option Nat)(t:Tmp):Bool:=(List.range l.length).all λi=>(eff i).isSome || (match l[i]? with|some o=>!(o.dst == some t)|none=>true)
theorem TB{l:List Oper}{eff:Nat->Option Nat}{t:Tmp}(h:MG l eff t=true){i:Nat}{o:Oper}(ho:l[i]? = some o)(he:eff i=none):o.dst≠some t:=by have h1:=Xa.1 h i (Yx.2 (Yr.1 ho).1);rw[he,ho]at h1;simpa using h1
theorem agQ{l:List Oper}{eff:Nat->Option Nat}(t u x:Tmp)(h:MG l eff t=true)(h2:MG l eff u=true)(h3:MG l eff x=true)(C:Nat->Value->Value->Value->World->Prop):∀(r:Nat)(a:Act)(w:World)(i:Nat)(o:Oper)(v:Value),l[i]? = some o->eff i=none->C r (a.tmps.getD t undef) (a.tmps.getD u undef) (a.tmps.getD x undef) w->C r ((a.put o.dst v).tmps.getD t undef) ((a.put o.dst v).tmps.getD u undef) ((a.put o.dst v).tmps.getD x undef) w:=
 λr a w i o v ho he hc=>by rw[gu (TB h ho he),gu (TB h2 ho he),gu (TB h3 ho he)];exact hc
end
section
theorem qY{cap cl:Int}{fin:Bool}{l:List T.ax}(hv:T.aK cap cl fin l):KA l:=by
 refine⟨by have:=hv.2.2.1;omega,λi hi=>?_⟩;have h1:=hv.at hi;have h2:=hv.2.1;have h0:=hv.2.2.1;have ho:=hv.2.2.2.2.2.1 i hi;obtain⟨o1,o2,o3,o4,o5,o6,o7,o8,o9,Og,o11,Qs,o13,o14⟩:=ho;have hs:1<=(T.tr l i).dm:=by have:=T.okR.mono hv.2.2.2.2.2.1 0 (i+1) (by omega);rw[Yf,T.yV,T.fV]at this;exact this
 unfold zQ sm;refine⟨⟨by omega,by omega⟩,⟨by omega,by omega⟩,⟨by omega,by omega⟩,⟨by omega,by omega⟩,⟨by omega,by omega⟩,⟨by omega,by omega⟩,⟨by omega,by omega⟩⟩
end
end Go.Proofs.YtfnehkmhcmkhjaaGreat
