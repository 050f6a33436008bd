/- Parts -/
import Derived.Deep.LoopGhost
import Derived.Test.YtfnehkmhcmkhjaaGreatDu16
set_option maxRecDepth 100000
set_option maxHeartbeats 8000000
set_option linter.unusedVariables false
namespace Go.Proofs.YtfnehkmhcmkhjaaGreat
open Tryz
section
open Go.RowKit
theorem decode_bad(p:List UInt8)(n:Int)(ve:Value)(l:List Int)(w:World)(hp:p.length<=9223372036854775807)(hv:∃a l c,ve=.slice a l c)(h:G.cO p n=false):
 Calls prog 228 #[.string (str p),.int .i64 n,ve] w λe w'=>e=.returned (.tuple #[.string (str []),.int .i64 0,.int .i64 1])/\Below w.heap.size w w':=by
 have H:=zH h;clear h;have hv0:=hv;obtain⟨a,m,c,rfl⟩:=hv;go_enter func228,ntmps228;go_wp2_with fail;refine(abp p n _ _ hp H.out hv0).mono ?_;rintro e w' ⟨rfl,rfl⟩;go_wp2_with fail
 go_ret3
 exact⟨rfl,zB _ _⟩
theorem Ti(p:List UInt8)(n:Nat)(ve:Value)(l:List Int)(w:World)(h:G.cO p n=true)(hv:lu w ve l)(hl:l.length<=1073741824)(hp:G.lL p.length l=false):
 Calls prog 228 #[.string (str p),.int .i64 n,ve] w λe w'=>e=.returned (.tuple #[.string (str []),.int .i64 0,.int .i64 1])/\Below w.heap.size w w':=by
 have H:=zH h;clear h;have HP:=zH hp;clear hp;have hv0:=hv;obtain⟨_,⟨a,c,_,_,rfl,_,_⟩,_⟩:=hv;go_enter func228,ntmps228;go_wp2_with fail;refine(abq p n _ l _ H.out hv0 hl HP.out).mono ?_;rintro e w' ⟨rfl,hb⟩;go_wp2_with fail
 go_ret3
 exact⟨rfl,hb⟩
theorem O7(p:List UInt8)(n:Nat)(ve:Value)(l:List Int)(w:World)(h:G.cO p n=true)(hv:lu w ve l)(hl:n<l.length)(hl2:l.length<=1073741824)(hp:G.lL p.length l=true):
 Calls prog 228 #[.string (str p),.int .i64 n,ve] w λe w'=>e=.returned (.tuple #[.string (str []),.int .i64 0,.int .i64 11])/\Below w.heap.size w w':=by
 have H:=zH h;clear h;have HP:=zH hp;clear hp;have hv0:=hv;obtain⟨_,⟨a,c,_,_,rfl,_,_⟩,_⟩:=hv;go_enter func228,ntmps228;go_wp2_with fail;refine(Vl p n _ l _ H.out hv0 hl hl2 HP.out).mono ?_;rintro e w' ⟨rfl,hb⟩;go_wp2_with fail
 go_ret3
 exact⟨rfl,hb⟩
theorem O8(p:List UInt8)(n:Nat)(ve:Value)(w:World)(h:G.cO p n=true)(hv:lu w ve [])(hz:G.mr (G.xi p n [])=true):
 Calls prog 228 #[.string (str p),.int .i64 n,ve] w λe w'=>e=.returned (.tuple #[.string (str p),.int .i64 0,.int .i64 0])/\Below w.heap.size w w':=by
 have H:=zH h;clear h;have HZ:=zH hz;clear hz;have hv0:=hv;obtain⟨_,⟨a,c,_,_,rfl,_,_⟩,_⟩:=hv;go_enter func228,ntmps228;go_wp2_with fail;refine(Q9 p n _ [] _ H.out hv0 (by simp) rfl).mono ?_;rintro e w1 ⟨vg,ad,cap,rfl,hrg,hrx,hb1⟩;clear hrg;go_wp2_with fail;refine(GZ _ _ _ hrx).mono ?_;rintro e w' ⟨rfl,rfl⟩;rw[HZ.out];go_wp2_with fail
 go_ret3
 exact⟨rfl,hb1⟩
theorem ahv(n:Nat):(List.replicate (n+1) (0:UInt8)).set n 1=List.replicate n 0++[1]:=by rw[List.replicate_succ',List.set_append_right _ _ (by simp)];simp
theorem afW(n:Nat):G.jM (List.replicate n 0++[1])=n:=by
 have e:(List.replicate n (0:UInt8)++[1]).length=n+1:=by simp
 unfold G.jM;rw[e,G.lS,if_neg];rw[G.jv (by simp)];simp[G.ix]
def sS(p o:List UInt8)(l:List Int)(n:Nat)(w:World)(e:Ending)(w':World):Prop:=
 e=.returned (.tuple (if G.az o n=true/\2*G.kH p o l p.length+l.length<=n then #[.string (str o),.int .i64 (G.iF p o p.length:Int),.int .i64 0] else #[.string (str []),.int .i64 0,.int .i64 11]))/\Below w.heap.size w w'
theorem sS.yes{p o:List UInt8}{l:List Int}{n:Nat}{w w':World}(h1:G.az o n=true)(h2:2*G.kH p o l p.length+l.length<=n)(hb:Below w.heap.size w w'):
 sS p o l n w (.returned (.tuple #[.string (str o),.int .i64 (G.iF p o p.length:Int),.int .i64 0])) w':=⟨by rw[zj ⟨h1,h2⟩],hb⟩
theorem sS.no{p o:List UInt8}{l:List Int}{n:Nat}{w w':World}(h:¬ (G.az o n=true/\2*G.kH p o l p.length+l.length<=n))(hb:Below w.heap.size w w'):
 sS p o l n w (.returned (.tuple #[.string (str []),.int .i64 0,.int .i64 11])) w':=⟨by rw[if_neg h],hb⟩
theorem QN(p q:List UInt8):(G.prod p q).length<=p.length+q.length:=by
 unfold G.prod;split
 ·simp
 ·rw[G.aY];omega
theorem decode_ok(p:List UInt8)(n:Nat)(ve:Value)(l:List Int)(w:World)(h:G.cO p n=true)(hv:lu w ve l)(hl:l.length<=n)(hp:G.lL p.length l=true)(hno:l.length=0->G.mr (G.xi p n l)=false):
 Calls prog 228 #[.string (str p),.int .i64 n,ve] w (sS p (G.nH p n l) l n w):=by
 obtain⟨h1,h2,h3,h4,h5⟩:=(G.bU p n).1 h;have H:=zH h;clear h;have HP:=zH hp;clear hp;have hv0:=hv;obtain⟨va,vc,rfl⟩:∃a c,ve=.slice a l.length c:=by obtain⟨_,⟨a,c,_,_,rfl,_,_⟩,_⟩:=hv;exact⟨_,_,rfl⟩
 have hel:=G.gW p.length l l.length;have hxl:=G.abK p n l (by omega);have hout:G.nH p n l=G.repair p (G.prod (G.Ob ((n:Int)+l.length) n (List.replicate n 0++[1]) (G.xi p n l) [0] [1]).2 (G.dY p.length l l.length)) (G.Ob ((n:Int)+l.length) n (List.replicate n 0++[1]) (G.xi p n l) [0] [1]).1:=rfl;obtain⟨o,ho⟩:∃o,o=G.nH p n l:=⟨_,rfl⟩;rw[<-ho]at hout ⊢;clear ho;obtain⟨gm,hgm⟩:∃gm,gm=G.dY p.length l l.length:=⟨_,rfl⟩;rw[<-hgm]at hel hout;obtain⟨xi,hxi⟩:∃xi,xi=G.xi p n l:=⟨_,rfl⟩;rw[<-hxi]at hxl hno hout;obtain⟨FB,hFB⟩:∃FB,FB=G.Ob ((n:Int)+l.length) n (List.replicate n 0++[1]) xi [0] [1]:=⟨_,rfl⟩;rw[<-hFB]at hout;have HF:=zH hFB;clear hFB;have HG:=zH hgm;clear hgm;have HX:=zH hxi;clear hxi;have HO:=zH hout;clear hout;have hgl:1<=gm.length:=by omega
 have apd:gm.length<=17:=by omega
 have HXL:=zH hxl;clear hxl;clear hel;have hcase:(((l.length:Int) == 0)=true/\Hid (G.mr xi=false))\/(((l.length:Int) == 0)=false/\Hid True):=by
  by_cases hl0:l.length=0
  ·exact .inl ⟨by rw[hl0];rfl,zH (hno hl0)⟩
  ·exact .inr ⟨by rw[Yc];omega,zH trivial⟩
 clear hno;rcases hcase with ⟨hd0,HZ⟩|⟨hd0,HZ⟩
 all_goals
  go_enter func228,ntmps228;go_wp2_with fail;refine(Q9 p n _ l _ H.out hv0 hl HP.out).mono ?_;rintro e w1 ⟨vg,ad,cap,rfl,hrg,hrx,hb1⟩;rw[<-HG.out]at hrg;rw[<-HX.out]at hrx;have Cm:=hb1.size;go_wp2_with (first|(refine(GZ _ _ _ hrx).mono ?_;rintro e w' ⟨rfl,rfl⟩;rw[HZ.out])|(refine fM (base:=w.heap.size) rfl _ _ rfl underlying366 infoU8 (n+1) rfl rfl (by omega) (by omega) (by omega) Cm ?_;intro w3 hown3 lG;have hb3:Below w.heap.size w w3:=hb1.grown lG Cm (by simp);have hr3:=Row.cells hown3;have hcs3:=hr3.cell n (by simp);have aoh:=hr3.frozen n (by omega);have hrg3:=(hrg.x (zl _)).keepW (λk hk _=>lG.block k hk (by simp));have ami:=(hrx.x (zl _)).keepW (λk hk _=>lG.block k hk (by simp))));have hr4:Row (w3.setCell ⟨w1.heap.size,n,none⟩ (.int .u8 1)) 5 w1.heap.size (n+1) (List.replicate n 0++[1]):=by have:=hr3.store n 1 (by simp);rw[ahv]at this;exact this
  have hz4:(w3.setCell ⟨w1.heap.size,n,none⟩ (.int .u8 1)).heap.size=w3.heap.size:=by simp
  have hg4:=hrg3.set (o:=n) (u:=.int .u8 1);have hx4:=ami.set (o:=n) (u:=.int .u8 1);have hb4:=hb3.setCell (p:=⟨w1.heap.size,n,none⟩) Cm (.int .u8 1);clear hr3 hcs3 aoh hrg3 ami hb3 hown3 lG hrg hrx;generalize w3.setCell ⟨w1.heap.size,n,none⟩ (.int .u8 1)=w4 at hr4 hz4 hg4 hx4 hb4 ⊢;rw[<-hz4];clear hz4;have ha5:=(hr4.rd (by simp;omega)).keep (((zB w4.heap.size w4).alloc (zl _) (.cells #[.int .u8 0] 5)).alloc (by simp) (.cells #[.int .u8 1] 5));have hg5:=hg4.rd.keep (((zB w4.heap.size w4).alloc (zl _) (.cells #[.int .u8 0] 5)).alloc (by simp) (.cells #[.int .u8 1] 5));have hx5:=hx4.rd.keep (((zB w4.heap.size w4).alloc (zl _) (.cells #[.int .u8 0] 5)).alloc (by simp) (.cells #[.int .u8 1] 5));have hb5:=(hb4.alloc hb4.size (.cells #[.int .u8 0] 5)).alloc (by have:=hb4.size;simp;omega) (.cells #[.int .u8 1] 5);have hou:(w4.alloc (.cells #[B 0] 5)).ownsRow w4.heap.size 5 1 (.slice (some ⟨w4.heap.size,0,none⟩) 1 1) 1 (bs [0]):=Xc w4 #[B 0] 1 (zl _) (by simp[maxLen]) (by simp);have hov:((w4.alloc (.cells #[B 0] 5)).alloc (.cells #[B 1] 5)).ownsRow (w4.alloc (.cells #[B 0] 5)).heap.size 5 1 (.slice (some ⟨(w4.alloc (.cells #[B 0] 5)).heap.size,0,none⟩) 1 1) 1 (bs [1]):=Xc _ #[B 1] 1 (zl _) (by simp[maxLen]) (by simp);have hu5:Rd ((w4.alloc (.cells #[.int .u8 0] 5)).alloc (.cells #[.int .u8 1] 5)) (.slice (some ⟨w4.heap.size,0,none⟩) 1 1) [0]:=(Rd.nU hou (by simp)).keep ((zB _ _).alloc (zl _) _);have hv5:Rd ((w4.alloc (.cells #[.int .u8 0] 5)).alloc (.cells #[.int .u8 1] 5)) (.slice (some ⟨w4.heap.size+1,0,none⟩) 1 1) [1]:=by have:=Rd.nU hov (by simp);rw[Yl]at this;exact this
  rw[Yb,Yq,XL]at ha5;clear hr4 hg4 hx4 hb4 hou hov;generalize (w4.alloc (.cells #[.int .u8 0] 5)).alloc (.cells #[.int .u8 1] 5)=w5 at ha5 hg5 hx5 hb5 hu5 hv5 ⊢;have hda:=afW n;have hdx:=(G.gV xi).2;rw[HXL.out]at hdx
  go_loopg [12,13,14,15,16,17] n (λg va vb vu vv _ _ wr=>∃(a b u v:List UInt8)(ada adb:Addr)(na nb ca cb:Nat),va=.slice (some ada) na ca/\vb=.slice (some adb) nb cb/\Hid (na=a.length)/\Hid (nb=b.length)/\na<=17/\nb<=17/\
   Rd wr (.slice (some ada) na ca) a/\Rd wr (.slice (some adb) nb cb) b/\Rd wr vu u/\Rd wr vv v/\Hid (G.jM b<G.jM a)/\Hid (G.jM b+1<=g)/\u.length+17*g<=1000/\v.length+17*g<=1000/\1<=v.length/\
   Hid (G.Ob ((n:Int)+l.length) g a b u v=FB)/\Rd wr vg gm/\Below w.heap.size w wr)
  case atStart=>
   refine⟨_,xi,[0],[1],_,_,n+1,n,_,_,rfl,rfl,zH (by simp),zH HXL.out.symm,by omega,by omega,ha5,hx5,hu5,hv5,zH (by omega),zH (by omega),by simp;omega,by simp;omega,by simp,zH HF.out.symm,hg5,hb5⟩
  case round=>
   clear ha5 hg5 hx5 hb5 hu5 hv5 hda hdx;obtain⟨a,b,u,v,ada,adb,na,nb,ca,cb,rfl,rfl,HA,HB,hna,hnb,ha,hb',hu,hv',HD,HE,hul,hvl,hv1,HR,hg,hb⟩:=hrel;have hd:=G.gV b;rw[<-HB.out]at hd;obtain⟨d,hdd⟩:∃d,d=G.jM b:=⟨_,rfl⟩;rw[<-hdd]at hd;have HDD:=zH hdd;clear hdd;go_wp2_with fail;refine(wI _ b _ hb').mono ?_;rintro e w' ⟨rfl,rfl⟩;rw[<-HDD.out];by_cases hlt:(n:Int)+l.length<=2*d
   ·obtain⟨m,hm⟩:∃m:Nat,d=m:=⟨d.toNat,by omega⟩;obtain⟨g,rfl⟩:∃g,gk=g+1:=⟨gk-1,by have:=HE.out;have:=HDD.out;omega⟩;have hdt:decide ((n:Int)+l.length<=2*d)=true:=zt hlt;have HT:=zH hlt;clear hlt;have HM:=zH hm;clear hm;have hma:m<na:=by have:=HD.out;have:=(G.gV a).2;have:=HDD.out;have:=HM.out;have:=HA.out;omega
    have hdb:G.jM b=(m:Int):=by rw[<-HDD.out,HM.out]
    have ha':Rd wr (.slice (some ada) a.length ca) a:=by rw[<-HA.out];exact ha
    have al5:m<a.length:=by rw[<-HA.out];exact hma
    have HC:=zH (Tn ada ca (.slice (some adb) nb cb) a b m wr ha' hb' hdb al5 (by rw[<-HA.out];omega));rw[<-HA.out]at HC;have hql:=(G.Tq a b).1;rw[hdb,<-HA.out]at hql;have HDb:=zH hdb;clear hdb;clear ha' al5;obtain⟨Q,hQ⟩:∃Q,Q=(G.divide a b).1:=⟨_,rfl⟩;obtain⟨R,hRr⟩:∃R,R=(G.divide a b).2:=⟨_,rfl⟩;rw[<-hQ]at HC hql;rw[<-hRr]at HC;have ajM:=G.Ei a b (by rw[HDb.out];omega);rw[<-hRr]at ajM;have akR:=zH ajM;clear ajM;have hQl:Q.length<=17:=by omega
    have hQ1:1<=Q.length:=by omega
    clear hql;have HQ:=zH hQ;clear hQ;have HRr:=zH hRr;clear hRr;go_wp2_with fail;refine HC.out.mono ?_;rintro e w6 ⟨g1,c1,g2,c2,rfl,hq6,ER,hrl,hb6⟩;have ac6:=hb'.keep hb6;have hu6:=hu.keep hb6;have hv6:=hv'.keep hb6;have Ws:=hg.keep hb6;have Oc:=hb.trans (hb6.mono hb.size);have HRl:=zH hrl;clear hrl;clear ha hb' hu hv' hg hb hb6;clear HC;go_wp2_with fail;refine(times_any _ _ Q v _ hq6 hv6).mono ?_;rintro e w7 ⟨vqv,rfl,ho7,hb7⟩;have aow:=QN Q v;have hq7:Rd w7 vqv (G.prod Q v):=Rd.bg ho7 (by omega);have hr7:=ER.keep hb7;have alJ:=ac6.keep hb7;have hu7:=hu6.keep hb7;have hv7:=hv6.keep hb7;have hg7:=Ws.keep hb7;have hB7:=Oc.trans (hb7.mono Oc.size);clear hq6 ER ac6 hu6 hv6 Ws Oc hb7 ho7;go_wp2_with fail;refine(aeg _ vqv u (G.prod Q v) _ hu7 hq7).mono ?_;rintro e w8 ⟨vn,rfl,ho8,hb8⟩;have aos:=G.qI u (G.prod Q v);have aox:(G.prod Q v).length<=v.length+17:=by omega
    have amc:(G.plus u (G.prod Q v)).length+17*g<=1000:=by omega
    have ajS:(G.prod Q v).length=Q.length+v.length-1:=G.gJ Q v (by intro e;rw[e]at hQ1;simp at hQ1) (by intro e;rw[e]at hv1;simp at hv1);have aot:1<=(G.plus u (G.prod Q v)).length:=by omega
    clear ajS;have hn8:Rd w8 vn (G.plus u (G.prod Q v)):=Rd.bg ho8 (by omega);have Uj:=hr7.keep hb8;have aoe:=alJ.keep hb8;have hv8:=hv7.keep hb8;have hg8:=hg7.keep hb8;have hB8:=hB7.trans (hb8.mono hB7.size);clear aos aox hq7 hr7 alJ hu7 hv7 hg7 hB7 hb8 ho8 aow;go_wp2_with fail
    go_roundg g
    case rel=>
     refine⟨b,R,v,G.plus u (G.prod Q v),_,_,nb,na,cb,c2,rfl,rfl,HB,zH HRl.out.symm,hnb,hna,aoe,Uj,hv8,hn8,akR,zH ?_,by omega,amc,aot,zH ?_,hg8,hB8⟩
     ·have:=akR.out;have:=HE.out;omega
     ·have:=HR.out;rw[G.Ob,zj (by rw[<-HDD.out];exact HT.out),<-HQ.out,<-HRr.out]at this;exact this
    case measure=>omega
   ·have hdt:decide ((n:Int)+l.length<=2*d)=false:=zf hlt;have hfin:(b,v)=FB:=by
     have:=HR.out;rw[<-this];cases gk with
     |zero=>rfl
     |succ g=>rw[G.Ob,if_neg (by rw[<-HDD.out];exact hlt)]
    have HFin:=zH hfin;clear hfin;clear hlt;go_wp2_with fail;have ajS:(G.prod v gm).length=v.length+gm.length-1:=G.gJ v gm (by intro e;rw[e]at hv1;simp at hv1) (by intro e;rw[e]at hgl;simp at hgl);have hpp:1<=(G.prod v gm).length:=by omega
    have apk:(G.prod v gm).length<=2000:=by omega
    clear ajS;refine(times_any _ _ v gm _ hv' hg).mono ?_;rintro e w6 ⟨aoR,rfl,BC,hb6⟩;have aio:Rd w6 aoR (G.prod v gm):=Rd.bg BC (by omega);have ac6:=hb'.keep hb6;have Oc:=hb.trans (hb6.mono hb.size);clear ha hb' hu hv' hg hb hb6 BC;go_wp2_with fail;have HOo:Hid (G.repair p (G.prod v gm) b=o):=zH (by rw[HO.out,<-HFin.out]);refine(U5 p (G.prod v gm) b _ _ _ h2 aio ac6 hpp).mono ?_;rintro e w7 ⟨rfl,hb7⟩;rw[HOo.out];have hB7:=Oc.trans (hb7.mono Oc.size);clear aio ac6 Oc hb7;have hol:o.length=p.length:=by rw[HO.out,G.jq]
    have HOl:=zH hol;clear hol;go_wp2_with fail;refine(OO p o _ l _ HOl.out h2 (hv0.keepW (λk hk=>hB7.block k hk))).mono ?_;rintro e w8 ⟨rfl,hb8⟩;have hB8:=hB7.trans (hb8.mono hB7.size);clear hB7 hb8;have hoth:=G.MO p o l p.length;obtain⟨OT,hOT⟩:∃OT,OT=G.kH p o l p.length:=⟨_,rfl⟩;rw[<-hOT]at hoth ⊢;have HOT:=zH hOT;clear hOT;obtain⟨AL,hAL⟩:∃AL,AL=G.iF p o p.length:=⟨_,rfl⟩;rw[<-hAL];have HAL:=zH hAL;clear hAL;have aor:o.length<=9223372036854775807:=by rw[HOl.out];omega
    go_wp2_with fail;refine(J7 o n _ aor).mono ?_;rintro e w9 ⟨rfl,xB⟩;have BA:=hB8.trans (xB.mono hB8.size);clear hB8 xB;cases hvb:G.az o n with
    | false=>
      have HV:=zH hvb;clear hvb;go_wp2_with fail
      go_ret3
      exact sS.no (by rw[HV.out];simp) BA
    | true=>
      have HV:=zH hvb;clear hvb;by_cases hgt:2*OT+l.length<=n
      ·have hgd:decide ((n:Int)<2*(OT:Int)+l.length)=false:=by rw[Yv];omega
       have HGt:=zH hgt;clear hgt;go_wp2_with fail
       go_ret3
       rw[HAL.out];exact sS.yes HV.out (by rw[<-HOT.out];exact HGt.out) BA
      ·have hgd:decide ((n:Int)<2*(OT:Int)+l.length)=true:=by rw[Yj];omega
       have HGt:=zH hgt;clear hgt;go_wp2_with fail
       go_ret3
       exact sS.no (by rw[<-HOT.out];exact λh=>HGt.out h.2) BA
theorem decode_any(p:List UInt8)(n:Int)(ve:Value)(l:List Int)(w:World)(hp:p.length<=9223372036854775807)(hv:lu w ve l)(hl:l.length<=1073741824):
 Calls prog 228 #[.string (str p),.int .i64 n,ve] w λe w'=>e=.returned (.tuple #[.string (str (G.decode p n l).1),.int .i64 (G.decode p n l).2.1,.int .i64 (G.decode p n l).2.2])/\Below w.heap.size w w':=by
 unfold G.decode;cases h:G.cO p n with
 | false=>
   refine(decode_bad p n ve l w hp ?_ h).mono λe w' hh=>by simpa using hh
   obtain⟨_,⟨a,c,_,_,rfl,_,_⟩,_⟩:=hv;exact⟨_,_,_,rfl⟩
 | true=>
   obtain⟨h1,h2,h3,h4,h5⟩:=(G.bU p n).1 h;obtain⟨m,rfl⟩:∃m:Nat,n=m:=⟨n.toNat,by omega⟩;cases hq:G.lL p.length l with
   |false=>exact(Ti p m ve l w h hv hl hq).mono λe w' hh=>by simpa using hh
   | true=>
     by_cases hlm:m<l.length
     ·exact(O7 p m ve l w h hv hlm hl hq).mono λe w' hh=>by simpa[hlm]using hh
     ·have aom:¬ ((m:Int)<(l.length:Int)):=by omega
      by_cases hz:l = []/\G.mr (G.xi p m l)=true
      ·obtain⟨rfl,hz⟩:=hz;refine(O8 p m ve w h hv hz).mono λe w' hh=>?_
       have hm0:¬ ((m:Int)<0):=by omega
       simpa[hz,hm0]using hh
      ·refine(decode_ok p m ve l w h hv (by omega) hq (λh0=>?_)).mono λe w' hh=>?_
       ·rw[YZ];intro hzz;exact hz ⟨Xu h0,hzz⟩
       ·obtain⟨rfl,hb⟩:=hh;refine⟨?_,hb⟩;simp only[Yw,aom,if_false,Bool.true_eq_false,hz];split <;> rfl
theorem fits_any(l:List UInt8)(n:Int)(w:World)(hl:l.length<=9223372036854775807):
 Calls prog 346 #[.string (str l),.int .i64 n] w λe w'=>e=.returned (.bool (G.cO l n))/\w=w':=by
 have hs:=au l;go_enter func346,ntmps346;go_wp2_with fail;all_goals go_ret
 all_goals refine⟨iT ?_,rfl⟩
 all_goals have hs:=au l
 all_goals first|(symm;rw[YZ];intro h;have:=(G.bU l n).1 h;omega)|(rw[YJ,G.bU,Yj];omega)
theorem ad5{w w':World}{base e size n:Nat}{v:Value}{xs:List Value}(h:w.ownsRow base e size v n xs)(hb:Below w.heap.size w w'):w'.ownsRow base e size v n xs:=by
 refine⟨h.1,?_⟩;rcases h.2 with h2|⟨g,cap,cur,h1,h2,h3,h4⟩
 ·exact .inl h2
 ·exact .inr ⟨g,cap,cur,h1,h2,(hb.block g (Yd.1 h3).1).trans h3,h4⟩
namespace G
def encR(l:List UInt8)(n:Int):List UInt8×Int:=if En l n then(enc l n.toNat,0) else([],1)
theorem acF(l:List UInt8)(n:Int):En l n=true↔1<=n/\n<=16/\l≠[]/\(l.length:Int)+n<=255:=by simp[En,and_assoc]
theorem af9{l:List UInt8}{n:Int}(h:En l n=true):encR l n=(enc l n.toNat,0):=by rw[encR,zj h]
theorem acH{l:List UInt8}{n:Int}(h:En l n=false):encR l n=([],1):=by rw[encR,if_neg (by simp[h])]
end G
theorem Eo(l:List UInt8)(n:Int)(w:World)(hl:l.length<=9223372036854775000)(h1:-9223372036854775808<=n)(h2:n<=9223372036854775807):
 Calls prog 169 #[.string (str l),.int .i64 n] w λe w'=>e=.returned (.tuple #[.string (str (G.encR l n).1),.int .i64 (G.encR l n).2])/\Below w.heap.size w w':=by
 cases h:G.En l n with
 | false=>
   rw[G.acH h];exact(TF l n w hl h1 h2 h).mono λe w' ⟨h,hw⟩=>⟨h,by rw[hw];exact zB _ _⟩
 | true=>
   obtain⟨g1,g2,g3,g4⟩:=(G.acF l n).1 h;obtain⟨m,rfl⟩:∃m:Nat,n=m:=⟨n.toNat,by omega⟩;rw[G.af9 h];exact Jh l m w g3 (by omega) (by omega) (by omega)
end
section
open Go.RowKit Go.Maps
theorem wP:Keyed prog 3:=int_keyed underlying3
theorem RG:∀w,(zeroValue 4).run prog w=.ok (.bool false) w:=λ_=>by kernel_rfl
theorem wfI{x:Int}(h1:-9223372036854775808<=x)(h2:x<=9223372036854775807):(Lit.int .i64 x).wf=true:=by simp[Lit.wf,IntKind.min,IntKind.max,IntKind.signed,IntKind.bits];omega
theorem nX{H:Type}{P:Program}{e:TypeId}(he:P.underlying e=some .bool){v:Value}{z:DataW H×List MemPlace}(h:plainElem P e v=some z):∃a,v=.bool a/\z=(.lit (.bool a),[]):=by unfold plainElem at h;rw[he]at h;cases v <;> simp at h;exact⟨_,rfl,h.symm⟩
def sU(w:World)(b n:Nat)(f:Int->Bool):Prop:=
 ∃D:DataW Unit,w.ownsMap prog 3 (plainElem prog 4) b n D/\∀x,-9223372036854775808<=x->x<=9223372036854775807->D.atKey (.int .i64 x) (.lit (.bool false))=.lit (.bool (f x))
theorem sU.made(w:World):sU (w.alloc (.map #[] 0)) w.heap.size 0 (λ_=>false):=⟨.map [],World.ownsMap_made _ _ _ _,λx _ _=>rfl⟩
theorem sU.lt{w:World}{b n:Nat}{f:Int->Bool}(h:sU w b n f):b<w.heap.size:=by obtain⟨D,h,_⟩:=h;exact h.lt
theorem sU.kept{w w':World}{b n:Nat}{f:Int->Bool}(h:sU w b n f)(hk:w'.heap[b]? = w.heap[b]?):sU w' b n f:=by obtain⟨D,⟨es,clock,hb,F,hs,hD⟩,hf⟩:=h;exact⟨D,⟨es,clock,hk.trans hb,F,hs,hD⟩,hf⟩
theorem sU.below{w w':World}{b n:Nat}{f:Int->Bool}(h:sU w b n f)(hb:Below w.heap.size w w'):sU w' b n f:=h.kept (hb.block b h.lt)
theorem sU.run{w:World}{b n:Nat}{f:Int->Bool}(h:sU w b n f)(x:Int)(h1:-9223372036854775808<=x)(h2:x<=9223372036854775807):
 (Instr.lookup 76 (.map (some b)) (.int .i64 x) false).run prog w=.ok (.bool (f x)) w:=by
 obtain⟨D,hown,hf⟩:=h;obtain⟨v,ps,hrun,hv⟩:=hown.lookup wP underlying76 (RG w) (plainElem_bool underlying4 false) (keyOf_int_mk underlying3 (wfI h1 h2));obtain⟨c,rfl,hc⟩:=nX underlying4 hv;simp only[XX]at hc;rw[hf x h1 h2]at hc;have:c=f x:=by simpa using hc.1.symm
 rw[hrun,this]
def Q7(f:Int->Bool)(x:Int)(v:Bool):Int->Bool:=λy=>if y=x then v else f y
theorem Ry{w:World}{ops:Array Oper}{rest:List Oper}{o:Oper}{a:Act}{Q:Exit->Act->World->Prop}
 (hg:o.guard=none)(m x v:Operand)(hop:o.op=Op.mapUpdate 76 m x v){b n:Nat}{f:Int->Bool}(hown:sU w b n f)(hm:a.eval m=.map (some b)){X:Int}(hx:a.eval x=.int .i64 X){V:Bool}(hv:a.eval v=.bool V)
 (h1:-9223372036854775808<=X)(h2:X<=9223372036854775807)(hn:n<1000000)
 (hK:∀w',sU w' b (n+1) (Q7 f X V)->w.grownBy w' (some b)->wpList prog ops Q rest (a.put o.dst undef) w'):wpList prog ops Q (o::rest) a w:=by
 obtain⟨D,hown,hf⟩:=hown;refine wpList_mapUpdate_own _ hg m x v 76 hop 3 4 wP underlying76 _ b n D hm hown (by unfold maxLen;omega) _ _ _ hx hv (keyOf_int_mk underlying3 (wfI h1 h2)) _ [] (plainElem_bool underlying4 V) ?_;intro w' ho hgr;refine hK w' ⟨_,ho,λy g1 g2=>?_⟩ hgr;unfold Q7;by_cases e:y=X
 ·subst e;rw[zj rfl,atKey_put_same hown.isMap];trivial
 ·rw[if_neg e,atKey_put_other (by simpa using e),hf y g1 g2]
end
namespace W8
open Go.RowKit Go.Maps
def MS(w:World)(b n:Nat)(S:List Int):Prop:=
 ∃D:DataW Unit,w.ownsMap prog 3 (plainElem prog 4) b n D/\(∀x:Int,D.atKey (.int .i64 x) (.lit (.bool false))=.lit (.bool (S.contains x)))/\(∀x:Int,has D (.int .i64 x)=S.contains x)/\Maps.size D=S.length/\S.Nodup
section
variable {w w':World} {b n:Nat} {S:List Int}
theorem MS.made(w:World):MS (w.alloc (.map #[] 0)) w.heap.size 0 []:=⟨.map [],World.ownsMap_made _ _ _ _,λx=>rfl,λx=>rfl,rfl,List.nodup_nil⟩
theorem MS.lt(h:MS w b n S):b<w.heap.size:=by obtain⟨D,h,_⟩:=h;exact h.lt
theorem MS.kept(h:MS w b n S)(hk:w'.heap[b]? = w.heap[b]?):MS w' b n S:=by obtain⟨D,⟨es,clock,hb,F,hs,hD⟩,hf⟩:=h;exact⟨D,⟨es,clock,hk.trans hb,F,hs,hD⟩,hf⟩
theorem MS.below(h:MS w b n S)(hb:Below w.heap.size w w'):MS w' b n S:=h.kept (hb.block b h.lt)
theorem MS.nodup(h:MS w b n S):S.Nodup:=by obtain⟨D,_,_,_,_,h⟩:=h;exact h
theorem MS.run(h:MS w b n S)(x:Int)(h1:-9223372036854775808<=x)(h2:x<=9223372036854775807):(Instr.lookup 76 (.map (some b)) (.int .i64 x) false).run prog w=.ok (.bool (S.contains x)) w:=by
 obtain⟨D,hown,hf,_⟩:=h;obtain⟨v,ps,hrun,hv⟩:=hown.lookup wP underlying76 (RG w) (plainElem_bool underlying4 false) (keyOf_int_mk underlying3 (wfI h1 h2));obtain⟨c,rfl,hc⟩:=nX underlying4 hv;simp only[XX]at hc;rw[hf x]at hc;have:c=S.contains x:=by simpa using hc.1.symm
 rw[hrun,this]
theorem MS.len(h:MS w b n S)(ty:TypeId):(Builtin.len_ #[76] ty #[.map (some b)]).run prog w=.ok (.int .i64 S.length) w:=by obtain⟨D,hown,_,_,hs,_⟩:=h;rw[hown.len underlying76 ty,hs]
def del(S:List Int)(x:Int):List Int:=S.filter λy=>y != x
theorem xU(S:List Int)(x y:Int):(del S x).contains y=(S.contains y && y != x):=by rw[YJ];simp[del]
theorem ZU(h:S.Nodup)(x:Int):(del S x).Nodup:=h.filter _
theorem afY(h:S.Nodup)(x:Int):(del S x).length+(if S.contains x=true then 1 else 0)=S.length:=by
 induction S with
 |nil=>simp[del]
 | cons y r ih=>
   have hn:=List.nodup_cons.1 h;have ih:=ih hn.2;by_cases e:y=x
   ·subst e;have hc:r.contains y=false:=by simpa using hn.1
    rw[hc]at ih;have e1:del (y::r) y=del r y:=by simp[del]
    rw[e1,Yn];simp at ih;simp;omega
   ·have e1:del (y::r) x=y::del r x:=by simp[del,e]
    have e2:(y::r).contains x=r.contains x:=by
     rw[List.contains_cons];have:(x == y)=false:=by simpa using Vb e
     rw[this,Bool.false_or]
    rw[e1,e2,Yn,Yn];omega
theorem vY{ops:Array Oper}{rest:List Oper}{o:Oper}{a:Act}{Q:Exit->Act->World->Prop}
 (hg:o.guard=none)(m x v:Operand)(hop:o.op=Op.mapUpdate 76 m x v)(hown:MS w b n S)(hm:a.eval m=.map (some b)){X:Int}(hx:a.eval x=.int .i64 X)(hv:a.eval v=.bool true)
 (h1:-9223372036854775808<=X)(h2:X<=9223372036854775807)(hn:n<1000000)(hnew:X ∉ S)
 (hK:∀w',MS w' b (n+1) (S++[X])->w.grownBy w' (some b)->wpList prog ops Q rest (a.put o.dst undef) w'):wpList prog ops Q (o::rest) a w:=by
 obtain⟨D,hown,hf,hh,hs,hnd⟩:=hown;have adq:=hown.tidy wP;refine wpList_mapUpdate_own _ hg m x v 76 hop 3 4 wP underlying76 _ b n D hm hown (by unfold maxLen;omega) _ _ _ hx hv (keyOf_int_mk underlying3 (wfI h1 h2)) _ [] (plainElem_bool underlying4 true) ?_;intro w' ho hgr;have hc:S.contains X=false:=by simpa using hnew
 refine hK w' ⟨_,ho,λy=>?_,λy=>?_,?_,?_⟩ hgr
 ·by_cases e:y=X
  ·subst e;rw[atKey_put_same (k:=.int .i64 y) hown.isMap trivial];simp
  ·rw[atKey_put_other (by simpa using e),hf y];simp[e]
 ·by_cases e:y=X
  ·subst e;rw[has_put_same (k:=.int .i64 y) hown.isMap trivial];simp
  ·rw[has_put_other (by simpa using e),hh y];simp[e]
 ·rw[size_put adq,hh X,hc,hs];simp
 ·rw[List.nodup_append];exact⟨hnd,by simp,λu hu v hv=>by simp at hv;subst hv;exact λe=>hnew (e ▸ hu)⟩
theorem IU{ops:Array Oper}{rest:List Oper}{o:Oper}{a:Act}{Q:Exit->Act->World->Prop}
 (hg:o.guard=none)(m x:Operand)(hop:o.op=Op.call {callee:=Callee.builtin Builtin.delete,args:=#[m,x],argTypes:=#[76,3]})(hown:MS w b n S)(hm:a.eval m=.map (some b)){X:Int}(hx:a.eval x=.int .i64 X)
 (h1:-9223372036854775808<=X)(h2:X<=9223372036854775807)
 (hK:∀w',MS w' b n (del S X)->w.grownBy w' (some b)->wpList prog ops Q rest (a.put o.dst (.tuple #[])) w'):wpList prog ops Q (o::rest) a w:=by
 obtain⟨D,hown,hf,hh,hs,hnd⟩:=hown;have adq:=hown.tidy wP;refine wpList_delete_own w hg m x 76 3 hop 4 wP underlying76 _ b n D hm hown _ _ hx (keyOf_int_mk underlying3 (wfI h1 h2)) ?_;intro w' ho hturn;refine hK w' ⟨_,ho,λy=>?_,λy=>?_,?_,ZU hnd X⟩ hturn.grown
 ·rw[xU];by_cases e:y=X
  ·subst e;rw[atKey_del_same];simp
  ·have hne:(y != X)=true:=by simpa using e
   rw[atKey_del_other (by simpa using e),hf y,hne,Bool.and_true]
 ·rw[xU];by_cases e:y=X
  ·subst e;rw[has_del_same];simp
  ·have hne:(y != X)=true:=by simpa using e
   rw[has_del_other (by simpa using e),hh y,hne,Bool.and_true]
 ·have h3:=size_del (k:=.int .i64 X) adq;have h4:=afY hnd X;rw[hh X]at h3;omega
end
def FZ(S:List Int)(ws:List Int):Nat->List Int
 |0=>S
 |k+1=>del (FZ S ws k) (aI ws k)
def rel(S ws:List Int):List Int:=FZ S ws ws.length
def iq(ws S:List Int):Nat->List Int
 |0=>[]
 |k+1=>if S.contains (aI ws k)=true then iq ws S k++[(k:Int)] else iq ws S k
def eu(ws S:List Int):List Int:=iq ws S ws.length
theorem Aw(ws S:List Int):∀k,(iq ws S k).length<=k
 |0=>zl _
 |k+1=>by have:=Aw ws S k;unfold iq;split <;> simp <;> omega
theorem uw(ws S:List Int):∀k,∀x∈iq ws S k,0<=x/\x<k
 |0=>λx hx=>by cases hx
 | k+1=>fun x hx=>by
   unfold iq at hx;split at hx
   ·rcases YX.1 hx with h|h
    ·have:=uw ws S k x h;omega
    ·simp at h;omega
   ·have:=uw ws S k x hx;omega
def an2(b n:Nat)(S:List Int)(w:World)(e:Ending)(w':World):Prop:=e=.returned (.tuple #[])/\MS w' b n S/\w.grownBy w' (some b)
theorem QY(wv:Value)(ws:List Int)(b n:Nat)(S:List Int)(w:World)(hw:abS b w wv ws)(hm:MS w b n S)(hl:ws.length<=1000):
 Calls prog 232 #[wv,.map (some b)] w (an2 b n (rel S ws) w):=by
 obtain⟨hw0,⟨wa,wc,wb,wo,rfl,hwc,_⟩,hwr⟩:=hw.rd;have aiS:=zH hw;have HWR:=zH hwr;clear hw hwr;go_enter func232,ntmps232;go_wp2_with fail
 go_loopw [8] (λvk wr=>∃k:Nat,k<=ws.length/\vk=.int .i64 k/\MS wr b n (FZ S ws k)/\w.grownBy wr (some b)) (λvk _=>ws.length-(RowKit.intOf vk).toNat)
 case atStart=>exact⟨0,by omega,rfl,hm,World.grownBy.refl _ _⟩
 case round=>
  clear hm;obtain⟨k,hk,rfl,hr,hb⟩:=hrel;by_cases hlt:k<ws.length
  ·have hwr:lu wr (.slice wa ws.length wc) ws:=aiS.out wr λj hj hjg=>hb.block j hj (λe=>hjg (zs e))
   obtain⟨_,⟨a2,c2,b2,o2,hv2,_,hcell⟩,_⟩:=hwr;injection hv2 with e1 e2 e3
   subst e1 e3;obtain⟨ha,hcw⟩:=hcell k hlt;obtain⟨hx1,hx2⟩:=HWR.out k hlt;clear hcell e2;have HK:Hid (FZ S ws (k+1)=del (FZ S ws k) (aI ws k)):=zH rfl;have hix:=bJ (P:=prog) underlying31 sizeInt (cap:=wc) ha hlt _ rfl wr;generalize FZ S ws k=T at *;generalize aI ws k=x at *;have Ha:=zH ha;clear ha;go_wp2_with (refine IU rfl _ _ rfl hr rfl rfl hx1 hx2 ?_;intro w2 hr2 hg2);have hb2:=hb.trans hg2;rw[<-HK.out]at hr2;clear hr hb hg2;go_roundw;case rel=>exact⟨k+1,by omega,by go_num,hr2,hb2⟩
   case measure=>simp[RowKit.intOf];omega
  ·obtain rfl:k=ws.length:=by omega
   go_wp2_with fail;go_end0;exact⟨rfl,hr,hb⟩
theorem FU(wv:Value)(ws:List Int)(b n:Nat)(S:List Int)(w:World)(hw:lu w wv ws)(hm:MS w b n S)(hl:ws.length<=1000):
 Calls prog 229 #[wv,.map (some b)] w λe w'=>∃v,e=.returned v/\w'.ownsRow w.heap.size 3 1 v (eu ws S).length (is (eu ws S))/\Below w.heap.size w w':=by
 obtain⟨hw0,⟨wa,wc,wb,wo,rfl,hwc,nP⟩,hwr⟩:=hw;have HW:=zH nP;have HWR:=zH hwr;clear nP hwr;go_enter func229,ntmps229;go_wp2_with fail;have ho0:=ownsRow_nil w w.heap.size 3;have hb0:=zB w.heap.size w;have HM:=zH hm;clear hm
 go_loopw [5,10] (λvo vk wr=>∃k:Nat,k<=ws.length/\vk=.int .i64 k/\wr.ownsRow w.heap.size 3 1 vo (iq ws S k).length (is (iq ws S k))/\Below w.heap.size w wr) (λ_ vk _=>ws.length-(RowKit.intOf vk).toNat)
 case atStart=>exact⟨0,by omega,rfl,ho0,hb0⟩
 case round=>
  clear ho0 hb0;obtain⟨k,hk,rfl,ho,hb⟩:=hrel;by_cases hlt:k<ws.length
  ·obtain⟨ha,hcw⟩:=HW.out k hlt;obtain⟨hx1,hx2⟩:=HWR.out k hlt;have alV:wr.cell? ⟨wb,wo+k,none⟩=some (.int .i64 (aI ws k)):=(hb.cell (p:=⟨wb,wo+k,none⟩) (zc w _ hcw)).trans hcw;have hix:=bJ (P:=prog) underlying31 sizeInt (cap:=wc) ha hlt _ rfl wr;have hlook:=(HM.out.below hb).run (aI ws k) hx1 hx2;have HK:Hid (iq ws S (k+1)=if S.contains (aI ws k)=true then iq ws S k++[(k:Int)] else iq ws S k):=zH rfl;have hpl:=Aw ws S k;have hbs:=hb.size;generalize iq ws S k=T at *;generalize aI ws k=x at *;generalize S.contains x=c at *;clear ha hcw;cases c with
   | true=>
     have BC:=ja ho ((zB wr.heap.size wr).alloc (zl _) (.cells #[.int .i64 (k:Int)] 3));have ER:=qJ wr [(k:Int)] 3 (by simp);have hb6:=hb.alloc hbs (.cells #[.int .i64 (k:Int)] 3);have yj:=hb6.size;clear ho hb;go_wp2_with (refine jH rfl _ _ rfl underlying31 infoI64 BC rfl ER rfl (by simp;omega) yj ?_;intro v7 w7 jl lH);have hb7:=hb6.grown lH yj (dW BC);clear hb6 BC ER lH;have qj:w7.ownsRow w.heap.size 3 1 v7 (iq ws S (k+1)).length (is (iq ws S (k+1))):=by rw[HK.out,zj rfl,Yb];exact jl
     clear jl;go_roundw;case rel=>exact⟨k+1,by omega,by go_num,qj,hb7⟩
     case measure=>simp[RowKit.intOf];omega
   | false=>
     have ho8:wr.ownsRow w.heap.size 3 1 u5 (iq ws S (k+1)).length (is (iq ws S (k+1))):=by rw[HK.out,if_neg (by decide)];exact ho
     clear ho;go_wp2_with fail;go_roundw;case rel=>exact⟨k+1,by omega,by go_num,ho8,hb⟩
     case measure=>simp[RowKit.intOf];omega
  ·obtain rfl:k=ws.length:=by omega
   go_wp2_with fail;go_ret;exact⟨_,rfl,ho,hb⟩
end W8
namespace W8
open Go.RowKit
section
variable {P:Program} {Q:Exit->Act->World->Prop} {n l₀:Nat}
theorem CQ{id:Nat}{l:List Oper}{a0:Act}{w:World}(hQ:¬ LetsOut Q)(hd:l.all mP=true)(hm:P.follows .mixedOrders=true)(R:World->World->Prop)(C:World->Prop)(V:Nat->Value->(Nat->Value)->World->Prop)(sk:Nat->Bool)(hf:kJ l a0.tmps.size=true)
 (hC:∀w w',R w w'->C w->C w')(hV:∀i v d w w',R w w'->V i v d w->V i v d w')(h0:C w.drew)
 (hstep:Si P Q R C V sk l a0 0 l)
 (hend:∀a w,C w->a.defers=a0.defers->a.tmps.size=a0.tmps.size->(∀t,gp l t=true->a.tmps.getD t undef=a0.tmps.getD t undef)->
  (∀(i:Nat)(o:Oper),l[i]? = some o->sk i=false->V i (gK o.dst a) (Ae l i a) w)->Q .normal a w):(Code.region id l.toArray true).wpIn (Fence.wide.inRound l₀) n P Q a0 w:=
 wpIn_region_any hm (qL hd hQ _ _ _ _ (aeT R C V sk hf hC hV h0 hstep hend))
end
def Me(ws:List Int)(f:Int)(c:List UInt8):Nat->Bool
 |0=>true
 |k+1=>Me ws f c k && (decide (f<=aI ws k) || decide (G.ix c k=0))
def Iz(ws:List Int)(f:Int)(c:List UInt8):Bool:=Me ws f c ws.length
theorem ES{ws:List Int}{f:Int}{c:List UInt8}{k:Nat}(h:(decide (f<=aI ws k) || decide (G.ix c k=0))=false):∀n,k<n->Me ws f c n=false
 |0,hk=>by omega
 | n+1,hk=>by
   unfold Me;by_cases e:k=n
   ·subst e;rw[h,Bool.and_false]
   ·rw[ES h n (by omega),Bool.false_and]
theorem ru(k b10 b4 b11:Nat)(wv:Value)(ws:List Int)(f:Int)(c:List UInt8)(w:World)(h10:Bx w b10 31 [wv])(h4:Bx w b4 3 [.int .i64 f])(h11:Bx w b11 9 [.string (str c)])(hw:lu w wv ws)(hk:k<ws.length)(hc:k<c.length):
 Calls prog 230 #[.int .i64 (k:Int),.pointer (some ⟨b10,0,none⟩),.pointer (some ⟨b4,0,none⟩),.pointer (some ⟨b11,0,none⟩)] w λe w'=>e=.returned (.bool (decide (f<=aI ws k) || decide (G.ix c k=0)))/\∃q,w'=w.drewN q:=by
 obtain⟨hw0,⟨wa,wc,wb,wo,rfl,hwc,nP⟩,hwr⟩:=hw;have c10:=h10.cell (i:=0) rfl;have c4:=h4.cell (i:=0) rfl;have c11:=h11.cell (i:=0) rfl;obtain⟨ha,hcw⟩:=nP k hk;have hix:=λwx=>bJ (P:=prog) underlying31 sizeInt (cap:=wc) ha hk _ rfl wx
 have hi1:=λwx=>oh (P:=prog) underlying9 c k hc _ rfl wx
 have hz:=Ad (G.ix c k);clear ha nP hwr h10 h4 h11;generalize aI ws k=x at *;by_cases h1:f<=x
 ·have hd:decide (f<=x)=true:=by simpa using h1
  rw[hd,Bool.true_or];clear h1;go_enter func230,ntmps230;go_wp2_with fail;go_quiet (fail);go_wp2_with fail;go_ret;exact⟨rfl,nq,rfl⟩
 ·have hd:decide (f<=x)=false:=by simpa using h1
  rw[hd,Bool.false_or];generalize decide (G.ix c k=0)=zz at *;clear h1;go_enter func230,ntmps230;go_wp2_with fail;go_quiet (fail);go_wp2_with fail;go_ret;exact⟨rfl,nq,rfl⟩
theorem afx(n:Nat)(b10 b4 b11:Nat)(wv:Value)(ws:List Int)(f:Int)(c:List UInt8)(w:World)(h10:Bx w b10 31 [wv])(h4:Bx w b4 3 [.int .i64 f])(h11:Bx w b11 9 [.string (str c)])(hw:lu w wv ws)(hn:n=ws.length)(hc:ws.length<=c.length)(hl:ws.length<=1000):
 Calls prog 231 #[.int .i64 (n:Int),.func (.func 230) #[] #[.pointer (some ⟨b10,0,none⟩),.pointer (some ⟨b4,0,none⟩),.pointer (some ⟨b11,0,none⟩)]] w λe w'=>e=.returned (.bool (Iz ws f c))/\∃q,w'=w.drewN q:=by
 have HI:Hid (∀k,k<n->∀q,Calls prog 230 #[.int .i64 (k:Int),.pointer (some ⟨b10,0,none⟩),.pointer (some ⟨b4,0,none⟩),.pointer (some ⟨b11,0,none⟩)] (w.drewN q) λe w'=>e=.returned (.bool (decide (f<=aI ws k) || decide (G.ix c k=0)))/\∃q,w'=w.drewN q):=zH λk hk q=>
  (ru k b10 b4 b11 wv ws f c (w.drewN q) h10 h4 h11 (hw.keepW λ_ _=>rfl) (by omega) (by omega)).mono λe w' ⟨h1,q2,h2⟩=>⟨h1,q+q2,by rw[h2];simp[World.drewN,XD]⟩
 have hn2:n<=1000:=by omega
 have HN:=zH hn;clear h10 h4 h11 hw hc hl hn;go_enter func231,ntmps231;go_wp2_with fail
 go_loopw [7] (λvk wr=>∃k q:Nat,k<=n/\vk=.int .i64 k/\Hid (Me ws f c k=true)/\wr=w.drewN q) (λvk _=>n-(RowKit.intOf vk).toNat)
 case atStart=>exact⟨0,0,by omega,rfl,zH rfl,rfl⟩
 case round=>
  obtain⟨k,q,hk,rfl,HK,rfl⟩:=hrel;by_cases hlt:k<n
  ·have hlt':(k:Int)<n:=by omega
   have hS:Me ws f c (k+1)=(Me ws f c k && (decide (f<=aI ws k) || decide (G.ix c k=0))):=rfl;rw[HK.out,Bool.true_and]at hS;have hF:(decide (f<=aI ws k) || decide (G.ix c k=0))=false->Iz ws f c=false:=λh=>by unfold Iz;rw[<-HN.out];exact ES h n hlt
   have HC:=zH (HI.out k hlt q);generalize (decide (f<=aI ws k) || decide (G.ix c k=0))=bb at *;have HS:=zH hS;clear hS;go_wp2_with fail;refine HC.out.mono ?_;rintro e w' ⟨rfl,q2,rfl⟩;cases bb with
   | false=>
     have HX:=zH (hF rfl);clear hF;go_wp2_with fail;go_ret;exact⟨by rw[HX.out];rfl,q2,rfl⟩
   | true=>
     clear hF;go_wp2_with fail;go_roundw;case rel=>exact⟨k+1,q2,by omega,by go_num,zH HS.out,rfl⟩
     case measure=>simp[RowKit.intOf];omega
  ·obtain rfl:k=n:=by omega
   have HX:Hid (Iz ws f c=true):=zH (by unfold Iz;rw[<-HN.out];exact HK.out);go_wp2_with fail;go_ret;exact⟨by rw[HX.out];rfl,q,rfl⟩
def oQ(f:Int)(st:List UInt8×List Int×Bool)(k:Nat):List UInt8×List Int×Bool:=
 let d:=G.decode (bu st.1 (wd k) f) 2 (eu (wd k) st.2.1)
 if d.2.2=0/\Iz (wd k) f d.1=true then(IB st.1 (wd k) f d.1,rel st.2.1 (wd k),aen st.1 (wd k) f d.1 || st.2.2) else st
def dJ(f:Int)(raw:List UInt8)(S:List Int):Nat->List UInt8×List Int×Bool
 |0=>(raw,S,false)
 |k+1=>oQ f (dJ f raw S k) k
theorem MX(f:Int)(st:List UInt8×List Int×Bool)(k:Nat):(oQ f st k).1.length=st.1.length:=by
 unfold oQ;dsimp only;split
 ·rw[BM]
 ·rfl
theorem rF(f:Int)(raw:List UInt8)(S:List Int):∀k,(dJ f raw S k).1.length=raw.length
 |0=>rfl
 |k+1=>by rw[dJ,MX,rF f raw S k]
theorem Rf{B b n:Nat}(hb:b<B)(S:List Int):bD B λW=>MS W b n S:=λ_ W W' row h hg hr=>
 MS.kept h (hg.block b h.lt (λe=>by have:=(hr b e.symm).1;omega))
theorem bD.ex{α:Type}{B:Nat}{p:α->World->Prop}(h:∀x,bD B (p x)):bD B λW=>∃x,p x W:=λ_ W W' row ⟨x,hx⟩ hg hr=>⟨x,(h x).grown hx hg hr⟩
theorem JR{w:World}{e g cap b n:Nat}{l:List UInt8}{S:List Int}(h:Row w e g cap l)(hm:MS w b n S):g≠b:=by rintro rfl;obtain⟨cur,fz,h1,_⟩:=h;obtain⟨D,⟨es,clock,h2,_⟩,_⟩:=hm;rw[h1]at h2;cases h2
def jO(B:Nat)(t:TypeId)(cs0:List Value)(w W:World):Prop:=
 nC B t cs0 w W/\∀(k:Nat)(cs:Array Value)(t':TypeId)(fz:Nat×Nat),w.heap[k]? = some (Obj.cells cs t' fz)->t'≠t->W.heap[k]? = w.heap[k]?
section
variable {B:Nat} {t:TypeId} {cs0:List Value} {w W:World}
theorem jO.refl:jO B t cs0 w w:=⟨nC.refl,λ_ _ _ _ _ _=>rfl⟩
theorem jO.call(hB:B<=w.heap.size)(hb:Below w.heap.size w W):jO B t cs0 w W:=⟨nC.call hB hb,λk _ _ _ h _=>hb.block k (Yd.1 h).1⟩
theorem jO.alloc(hB:B<=w.heap.size)(o:Obj):jO B t cs0 w (w.alloc o):=jO.call hB ((zB _ _).alloc (zl _) o)
theorem jO.store{g:Nat}(hg:B<=g)(ho:∃cs:List Value,cs.length=cs0.length/\Bx w g t cs):jO B t cs0 w (bK w g 0 cs0):=by refine⟨nC.store hg ho,λk cs t' fz h hne=>?_⟩;obtain⟨cs',_,hb⟩:=ho;refine(fA.bK cs0 0 (fA.refl (some g) w)).2 k (Yd.1 h).1 (λe=>?_);obtain rfl:=zs e;unfold Bx at hb;rw[hb]at h;simp only[YA,Obj.cells.injEq]at h;exact hne h.2.1.symm
theorem jO.own{b e sz n:Nat}{v:Value}{xs:List Value}(h:jO B t cs0 w W)(ho:w.ownsRow b e sz v n xs)(hne:e≠t):W.ownsRow b e sz v n xs:=by
 refine⟨ho.1,?_⟩;rcases ho.2 with h2|⟨g,cap,cur,h1,h2,h3,h4⟩
 ·exact .inl h2
 ·exact .inr ⟨g,cap,cur,h1,h2,(h.2 _ _ _ _ h3 hne).trans h3,h4⟩
end
section
variable {P:Program} {Q:Exit->Act->World->Prop}
theorem abt{R:World->World->Prop}{V:Nat->Value->(Nat->Value)->World->Prop}{d:Nat->Value}{i:Nat}{o:Oper}{a:Act}{w:World}(h:∀K:Act->World->Prop,(∀v w',R w w'->V i (kept o.dst v) d w'->K (a.put o.dst v) w')->o.wp P a w K Q):
 o.wp P a w (λa' w'=>∃v,a'=a.put o.dst v/\R w w'/\V i (kept o.dst v) d w') Q:=h _ λv w' hr hv=>⟨v,rfl,hr,hv⟩
end
structure PX (W:World) (b3 b4 b5 b8 g cap mb:Nat) (f:Int) (c:Bool):Prop where
 x3:Bx W b3 65 [.slice (some ⟨g,0,none⟩) 2352 cap]
 x4:Bx W b4 3 [.int .i64 f]
 x5:Bx W b5 76 [.map (some mb)]
 x8:Bx W b8 4 [.bool c]
theorem PX.stays(B b3 b4 b5 b8 g cap mb:Nat)(f:Int)(c:Bool):bD B λW=>PX W b3 b4 b5 b8 g cap mb f c:=λ_ W W' row h hg hr=>
 ⟨(dh B _ _ _).grown h.x3 hg hr,(dh B _ _ _).grown h.x4 hg hr,(dh B _ _ _).grown h.x5 hg hr,(dh B _ _ _).grown h.x8 hg hr⟩
theorem PX.keep{W W':World}{b3 b4 b5 b8 g cap mb:Nat}{f:Int}{c:Bool}(h:PX W b3 b4 b5 b8 g cap mb f c){B:Nat}(hb:Below B W W')(hB:W.heap.size<=B):PX W' b3 b4 b5 b8 g cap mb f c:=
 ⟨h.x3.jm hb (zL h.x3.lt hB),h.x4.jm hb (zL h.x4.lt hB),h.x5.jm hb (zL h.x5.lt hB),h.x8.jm hb (zL h.x8.lt hB)⟩
theorem PX.grown{W W':World}{b3 b4 b5 b8 g cap mb r:Nat}{f:Int}{c:Bool}(h:PX W b3 b4 b5 b8 g cap mb f c)(hg:W.grownBy W' (some r))(hr:r<b3/\b3<b4/\b4<b5/\b5<b8):PX W' b3 b4 b5 b8 g cap mb f c:=
 ⟨(hg.block _ h.x3.lt (λe=>by cases e;omega)).trans h.x3,(hg.block _ h.x4.lt (λe=>by cases e;omega)).trans h.x4,(hg.block _ h.x5.lt (λe=>by cases e;omega)).trans h.x5,(hg.block _ h.x8.lt (λe=>by cases e;omega)).trans h.x8⟩
def abT(e0 g cap mb n0 B0:Nat)(f:Int)(raw:List UInt8)(S:List Int)(w:World)(e:Ending)(w':World):Prop:=
 e=.returned (.tuple #[.bool (dJ f raw S 138).2.2,.bool (decide ((dJ f raw S 138).2.1.length<S.length))])/\Row w' e0 g cap (dJ f raw S 138).1/\MS w' mb n0 (dJ f raw S 138).2.1/\Below B0 w w'
end W8
end Go.Proofs.YtfnehkmhcmkhjaaGreat
