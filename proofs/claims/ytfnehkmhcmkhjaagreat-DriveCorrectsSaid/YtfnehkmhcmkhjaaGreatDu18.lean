/- Parts -/
import Derived.Test.YtfnehkmhcmkhjaaGreatDu10
import Derived.Test.YtfnehkmhcmkhjaaGreatDu13
import Derived.Test.YtfnehkmhcmkhjaaGreatDu14
import Derived.Deep.RegionLaw
set_option maxRecDepth 100000
set_option maxHeartbeats 8000000
set_option linter.unusedVariables false
namespace Go.Proofs.YtfnehkmhcmkhjaaGreat
open Tryz
section
open Go.RowKit
def kT(cap cl:Int)(fin:Bool)(sv:Value)(w:World):World:=
 ((w.alloc (.cells #[.int .i64 cap] 3)).alloc (.cells #[.int .i64 cl,.bool fin,sv] 37)).alloc
   (.cells #[.func (.func 307) #[] #[],.func (.func 308) #[] #[],.func (.func 309) #[] #[.pointer (some ⟨w.heap.size+1,0,none⟩)],
    .func (.func 310) #[] #[.pointer (some ⟨w.heap.size+1,0,none⟩)],.func (.func 311) #[] #[],.func (.func 312) #[] #[.pointer (some ⟨w.heap.size,0,none⟩)],
    .func (.func 313) #[] #[],.func (.func 314) #[] #[]] 336)
theorem aa5(cap cl:Int)(fin:Bool)(sv:Value)(w:World):
 Calls prog 245 #[.int .i64 cap,.agg #[.int .i64 cl,.bool fin,sv]] w λe w'=>e=.returned (.slice (some ⟨w.heap.size+1+1,0,none⟩) 8 8)/\w'=kT cap cl fin sv w:=by
 go_enter func245,ntmps245;go_wp2;go_ret;exact⟨rfl,rfl⟩
theorem BP(cap cl:Int)(fin:Bool)(sv:Value)(w:World):(kT cap cl fin sv w).heap.size=w.heap.size+3:=by simp[kT]
theorem yU{B:Nat}(cap cl:Int)(fin:Bool)(sv:Value)(w:World)(hB:B<=w.heap.size):Below B w (kT cap cl fin sv w):=
 (((zB _ _).alloc hB _).alloc (by simp;omega) _).alloc (by simp;omega) _
theorem aeB(cap cl:Int)(fin:Bool)(sv:Value)(w:World):(kT cap cl fin sv w).cell? ⟨w.heap.size,0,none⟩=some (.int .i64 cap):=by simp[kT,go_sem]
theorem aeC(cap cl:Int)(fin:Bool)(sv:Value)(w:World):abO (kT cap cl fin sv w) (w.heap.size+1) cl fin sv:=by unfold abO;refine⟨?_,?_,?_⟩ <;> simp[kT,go_sem]
theorem aeD(cap cl:Int)(fin:Bool)(sv:Value)(w:World)(j:Nat):(kT cap cl fin sv w).cell? ⟨w.heap.size+1+1,j,none⟩ =
 (#[Value.func (.func 307) #[] #[],.func (.func 308) #[] #[],.func (.func 309) #[] #[.pointer (some ⟨w.heap.size+1,0,none⟩)],
   .func (.func 310) #[] #[.pointer (some ⟨w.heap.size+1,0,none⟩)],.func (.func 311) #[] #[],.func (.func 312) #[] #[.pointer (some ⟨w.heap.size,0,none⟩)],
   .func (.func 313) #[] #[],.func (.func 314) #[] #[]])[j]?:=by simp[kT,go_sem]
theorem sizeRule:(prog.info? 336).map (·.size)=some 1:=by kernel_rfl
def fU(cap cl:Int)(fin:Bool)(l:List T.ax)(i r:Nat):Bool:=
 match r with
 |0=>decide ((T.tr l i).num=i+1)
 |1=>R2 i (T.tr l i).dm (T.tr l (i-1)).dm
 |2=>decide ((T.tr l i).dm<=cl+1/\(T.tr l i).dm<=16/\(cl<(T.tr l i).dm\/(T.tr l i).dZ=2))
 |3=>decide (fin=true->(T.tr l i).dm<=cl)
 |4=>decide ((T.tr l i).st=if i=0 then 0 else if (T.tr l (i-1)).dm<(T.tr l i).dm then(T.tr l (i-1)).st+(T.tr l (i-1)).len+16 else(T.tr l (i-1)).st+(T.tr l (i-1)).len)
 |5=>decide (1<=(T.tr l i).len/\(T.tr l i).len<=cap/\(T.tr l i).st<=cap-(T.tr l i).len)
 |6=>decide ((T.tr l i).pk=0\/1<=(T.tr l i).pk/\(T.tr l i).pk<=1024/\(T.tr l i).len.tmod (T.tr l i).pk=0/\((T.tr l i).nx-(T.tr l i).st).tmod (T.tr l i).pk=0)
 |_=>R8 (T.tr l i)
theorem kz(cap cl:Int)(fin:Bool)(l:List T.ax)(i:Nat):(∀r,r<8->fU cap cl fin l i r=true)↔T.okI cap cl fin l i:=by
 constructor
 ·intro h;have h0:=h 0 (by omega);have h1:=h 1 (by omega);have h2:=h 2 (by omega);have h3:=h 3 (by omega);have h4:=h 4 (by omega);have h5:=h 5 (by omega);have h6:=h 6 (by omega);have h7:=h 7 (by omega);simp only[fU,R2,R8,Yj]at h0 h1 h2 h3 h4 h5 h6 h7;refine⟨h0,h1.1,λh=>?_,h2.1,h2.2.1,h2.2.2,h3,?_,h5.1,h5.2.1,h5.2.2,h6,h7.1,h7.2⟩
  ·have:=h1.2 h;unfold T.sB;rw[zi (by omega)];exact this
  ·rw[h4];by_cases e:i=0
   ·rw[zj e,zj e]
   ·rw[zi e,zi e];unfold T.sB T.eB;rw[zi e,zi e]
 ·rintro⟨g1,g2,g3,g4,g5,g6,g7,g8,g9,g10,g11,g12,g13,g14⟩ r hr;have hs:0<i->T.sB l i=(T.tr l (i-1)).dm:=λh=>by unfold T.sB;rw[zi (by omega)]
  have he:0<i->T.eB l i=(T.tr l (i-1)).st+(T.tr l (i-1)).len:=λh=>by unfold T.eB;rw[zi (by omega)]
  match r,hr with
  |0,_=>exact zt g1
  |1,_=>exact zt ⟨g2,λh=>by have:=g3 h;rwa[hs h]at this⟩
  |2,_=>exact zt ⟨g4,g5,g6⟩
  |3,_=>exact zt g7
  | 4,_=>
    refine zt ?_;rw[g8];by_cases e:i=0
    ·rw[zj e,zj e]
    ·rw[zi e,zi e,hs (by omega),he (by omega)]
  |5,_=>exact zt ⟨g9,g10,g11⟩
  |6,_=>exact zt g12
  |7,_=>exact zt ⟨g13,g14⟩
theorem J8(cap cl:Int)(fin:Bool)(sv:Value)(l:List T.ax)(w:World)(hr:bQ w sv l)(hb:¬ (1<=cap/\cap<=449849/\l.length<=99/\0<=cl/\cl<=16/\¬ (fin=true/\cl=0)))(hlen:l.length<=281474976710656):
 Calls prog 164 #[.int .i64 cap,.agg #[.int .i64 cl,.bool fin,sv]] w (KJ cap cl fin l w):=by
 have hF:T.az cap cl fin l=false:=by rw[T.dX,<-T.iC];exact λh=>hb ⟨h.1,h.2.1,h.2.2.1,h.2.2.2.1,h.2.2.2.2.1,h.2.2.2.2.2.1⟩
 have HF:=zH hF;clear hF;obtain⟨a,c,rfl,hac⟩:=hr.form;cases fin;all_goals
  go_enter func164,ntmps164;simp only[Bool.false_eq_true,false_and,not_false_eq_true,and_true,true_and]at hb;go_wp2;all_goals first
   | (go_ret
      exact⟨iT HF.out.symm,(zB _ _).alloc (zl _) _⟩)
   | (exfalso
      try simp only[Yc,ne_eq]at *
      omega)
theorem ajw{P:Program}{f:FuncId}{args:Array Value}{w wG:World}{v:Ending}(h:Calls P f args w λe w'=>e=v/\w'=wG):Calls P f args w λe w'=>e=v/\wG=w':=
 h.mono λ_ _ ⟨a,b⟩=>⟨a,b.symm⟩
def Ctx(cap cl:Int)(fin:Bool)(sv:Value)(l:List T.ax)(i:Nat)(v':Value)(g:Nat)(W:World):Prop:=
 dU W 7 v' i (λk=>kK (T.tr l k))/\abO W (g+1) cl fin sv/\W.cell? ⟨g,0,none⟩=some (.int .i64 cap)/\g+1<W.heap.size
section
variable {cap cl:Int} {fin:Bool} {sv:Value} {l:List T.ax} {i:Nat} {v':Value} {g:Nat}
theorem Ctx.keep{W W':World}(h:Ctx cap cl fin sv l i v' g W)(hb:Below W.heap.size W W'):Ctx cap cl fin sv l i v' g W':=by
 obtain⟨h1,⟨h2,h3,h4⟩,h5,h6⟩:=h;refine⟨h1.keep hb,⟨?_,?_,?_⟩,?_,by have:=hb.size;omega⟩
 ·rw[hb.cell (p:=⟨g+1,0,none⟩) h6];exact h2
 ·rw[hb.cell (p:=⟨g+1,1,none⟩) h6];exact h3
 ·rw[hb.cell (p:=⟨g+1,2,none⟩) h6];exact h4
 ·rw[hb.cell (p:=⟨g,0,none⟩) (by simp only;omega)];exact h5
theorem alm(hh:i<=110/\(∀m,m<i->zQ (T.tr l m))/\zQ (T.tr l i)/\1<=cap/\cap<=449849/\0<=cl/\cl<=16)(W:World)(h:Ctx cap cl fin sv l i v' g W):Calls prog 307 #[v',jL (T.tr l i)] W (RB (fU cap cl fin l i 0) W):=by obtain⟨vP,LZ,hsx,h1c,h2c,h0c,h5⟩:=hh;obtain⟨h1,h2,h3,h4⟩:=h;exact aaX v' i _ _ W h1 vP
theorem aln(hh:i<=110/\(∀m,m<i->zQ (T.tr l m))/\zQ (T.tr l i)/\1<=cap/\cap<=449849/\0<=cl/\cl<=16)(W:World)(h:Ctx cap cl fin sv l i v' g W):Calls prog 308 #[v',jL (T.tr l i)] W (RB (fU cap cl fin l i 1) W):=by obtain⟨vP,LZ,hsx,h1c,h2c,h0c,h5⟩:=hh;obtain⟨h1,h2,h3,h4⟩:=h;exact aaY v' i l _ W h1 vP LZ hsx.2.1
theorem call2(hh:i<=110/\(∀m,m<i->zQ (T.tr l m))/\zQ (T.tr l i)/\1<=cap/\cap<=449849/\0<=cl/\cl<=16)(W:World)(h:Ctx cap cl fin sv l i v' g W):Calls prog 309 #[v',jL (T.tr l i),.pointer (some ⟨g+1,0,none⟩)] W (RB (fU cap cl fin l i 2) W):=by obtain⟨vP,LZ,hsx,h1c,h2c,h0c,h5⟩:=hh;obtain⟨h1,h2,h3,h4⟩:=h;exact aaZ v' _ (g+1) cl fin _ W h2 h4 (by omega) h5
theorem call3(hh:i<=110/\(∀m,m<i->zQ (T.tr l m))/\zQ (T.tr l i)/\1<=cap/\cap<=449849/\0<=cl/\cl<=16)(W:World)(h:Ctx cap cl fin sv l i v' g W):Calls prog 310 #[v',jL (T.tr l i),.pointer (some ⟨g+1,0,none⟩)] W (RB (fU cap cl fin l i 3) W):=by obtain⟨vP,LZ,hsx,h1c,h2c,h0c,h5⟩:=hh;obtain⟨h1,h2,h3,h4⟩:=h;exact aa0 v' _ (g+1) cl fin _ W h2 h4
theorem call4(hh:i<=110/\(∀m,m<i->zQ (T.tr l m))/\zQ (T.tr l i)/\1<=cap/\cap<=449849/\0<=cl/\cl<=16)(W:World)(h:Ctx cap cl fin sv l i v' g W):Calls prog 311 #[v',jL (T.tr l i)] W (RB (fU cap cl fin l i 4) W):=by obtain⟨vP,LZ,hsx,h1c,h2c,h0c,h5⟩:=hh;obtain⟨h1,h2,h3,h4⟩:=h;exact aa1 v' i l _ W h1 vP LZ hsx.2.1
theorem call5(hh:i<=110/\(∀m,m<i->zQ (T.tr l m))/\zQ (T.tr l i)/\1<=cap/\cap<=449849/\0<=cl/\cl<=16)(W:World)(h:Ctx cap cl fin sv l i v' g W):Calls prog 312 #[v',jL (T.tr l i),.pointer (some ⟨g,0,none⟩)] W (RB (fU cap cl fin l i 5) W):=by obtain⟨vP,LZ,hsx,h1c,h2c,h0c,h5⟩:=hh;obtain⟨h1,h2,h3,h4⟩:=h;exact aa2 v' _ g cap W h3 (by omega) h1c h2c hsx.2.2.1 hsx.2.2.2.1
theorem call6(hh:i<=110/\(∀m,m<i->zQ (T.tr l m))/\zQ (T.tr l i)/\1<=cap/\cap<=449849/\0<=cl/\cl<=16)(W:World)(h:Ctx cap cl fin sv l i v' g W):Calls prog 313 #[v',jL (T.tr l i)] W (RB (fU cap cl fin l i 6) W):=by obtain⟨vP,LZ,hsx,h1c,h2c,h0c,h5⟩:=hh;obtain⟨h1,h2,h3,h4⟩:=h;exact aa3 v' _ W hsx
theorem call7(hh:i<=110/\(∀m,m<i->zQ (T.tr l m))/\zQ (T.tr l i)/\1<=cap/\cap<=449849/\0<=cl/\cl<=16)(W:World)(h:Ctx cap cl fin sv l i v' g W):Calls prog 314 #[v',jL (T.tr l i)] W (RB (fU cap cl fin l i 7) W):=by obtain⟨vP,LZ,hsx,h1c,h2c,h0c,h5⟩:=hh;obtain⟨h1,h2,h3,h4⟩:=h;exact aa4 v' _ W hsx.2.2.1 hsx.2.2.2.1
end
theorem ae9(cap cl:Int)(fin:Bool)(sv:Value)(l:List T.ax)(w:World)(hr:bQ w sv l)(hf:KA l)(h1:1<=cap)(h2:cap<=449849)(h3:l.length<=99)(h4:0<=cl)(h5:cl<=16)(h6:¬ (fin=true/\cl=0)):
 Calls prog 164 #[.int .i64 cap,.agg #[.int .i64 cl,.bool fin,sv]] w (KJ cap cl fin l w):=by
 have Hr:=zH hr;obtain⟨a,c,b,off,rfl,hac,hcell⟩:=hr;have HC:=zH hcell;clear hcell;have HFw:=zH hf;clear hf;have H6:=zH h6;go_enter func164,ntmps164;go_upto_region 1 with (fail)
 go_cut [39] (λv wx=>v=.bool false/\wx=w.alloc (.cells #[.int .i64 cl,.bool fin,.slice a l.length c] 37))
 case first=>
  cases fin
  ·clear h6;go_wp2_with fail;all_goals (go_meet;case rel=>exact⟨Yp Value.bool (by simp only[Bool.or_eq_false_iff,Yv];omega),rfl⟩)
  ·have hz:(cl == 0)=false:=by rw[Yc];exact λh=>h6 ⟨rfl,h⟩
   clear h6;go_wp2_with fail;all_goals (go_meet;case rel=>exact⟨Yp Value.bool (by simp only[Bool.or_eq_false_iff,Yv];omega),rfl⟩)
 clear h6;obtain⟨rfl,rfl⟩:=hcut;go_wp2_with fail
 go_loopw [43] (λvi wr=>∃(i:Nat),i<=l.length/\vi=.int .i64 i/\Hid (∀m,m<i->T.okI cap cl fin l m)/\
  Below (w.heap.size+1) (w.alloc (.cells #[.int .i64 cl,.bool fin,.slice a l.length c] 37)) wr) (λvi _=>l.length-(RowKit.intOf vi).toNat)
 case atStart=>exact⟨0,by omega,rfl,zH λi hi=>by omega,by simpa using zB _ _⟩
 case round=>
  obtain⟨i,hi,rfl,HO,hb⟩:=hrel;obtain⟨wo,rfl⟩:∃wo:World,wo=wr:=⟨_,rfl⟩;have ht0:wo.cell? ⟨w.heap.size,0,none⟩=some (.int .i64 cl):=(hb.cell (p:=⟨w.heap.size,0,none⟩) (by simp)).trans (by simp[go_sem]);have ht1:wo.cell? ⟨w.heap.size,1,none⟩=some (.bool fin):=(hb.cell (p:=⟨w.heap.size,1,none⟩) (by simp)).trans (by simp[go_sem]);have ht2:wo.cell? ⟨w.heap.size,2,none⟩=some (.slice a l.length c):=(hb.cell (p:=⟨w.heap.size,2,none⟩) (by simp)).trans (by simp[go_sem]);have hsz:w.heap.size<wo.heap.size:=by have:=hb.size;simp at this;omega
  have hb0:Below w.heap.size w wo:=((zB _ _).alloc (zl _) _).trans (hb.mono (by omega));by_cases hlt:i<l.length
  ·obtain⟨ha,hrange⟩:=HC.out i hlt;have Oo:=zH (p:=i<=110/\(∀m,m<i->zQ (T.tr l m))/\zQ (T.tr l i)/\1<=cap/\cap<=449849/\0<=cl/\cl<=16) ⟨by omega,λm hm=>HFw.out.2 m (by omega),HFw.out.2 i hlt,h1,h2,h4,h5⟩;obtain⟨v',hrv,hcut⟩:=aeF underlying35 sizeTrack (Hr.out.keep hb0) i hi;have hcut:=λw'=>hcut i i w' rfl rfl
   obtain⟨x,hx⟩:∃x,x=T.tr l i:=⟨_,rfl⟩;rw[<-hx]at hrange;have Hx:=zH hx;clear hx;have hix:=λw'=>aB underlying35 sizeTrack (cap:=c) ha hlt _ rfl w'
   have hrg:wo.rangeAt b (off+i*7) (kK x):=λj u hu=>(hb.cell (p:=⟨b,off+i*7+j,none⟩) (by
    have:=zc w _ (hrange j u hu);simp only at this ⊢;omega)).trans (by
    have:=zc w _ (hrange j u hu);rw[World.cell?_alloc_lt _ _ _ this];exact hrange j u hu)
   clear hrange;obtain⟨hc0,hc1,hc2,hc3,hc4,hc5,hc6⟩:=Oh hrg;clear hrg;have Ha:=zH ha;clear ha;have hRW:=aa5 cap cl fin (.slice a l.length c) (wo.alloc (oI x));have hs1:(wo.alloc (oI x)).heap.size=wo.heap.size+1:=by simp
   have ajK:Ctx cap cl fin (.slice a l.length c) l i v' (wo.heap.size+1) (kT cap cl fin (.slice a l.length c) (wo.alloc (oI x))):=by
    refine⟨?_,?_,?_,?_⟩
    ·exact(hrv.keep ((zB _ _).alloc (zl _) _)).keep (yU _ _ _ _ _ (zl _))
    ·rw[<-hs1];exact aeC _ _ _ _ _
    ·rw[<-hs1];exact aeB _ _ _ _ _
    ·rw[BP,hs1];omega
   have hfn:=aeD cap cl fin (.slice a l.length c) (wo.alloc (oI x));have agC:=BP cap cl fin (.slice a l.length c) (wo.alloc (oI x));have hbG:Below (wo.heap.size+1) (wo.alloc (oI x)) (kT cap cl fin (.slice a l.length c) (wo.alloc (oI x))):=yU _ _ _ _ _ (by omega);rw[hs1]at hfn agC hRW;obtain⟨wG,hwG⟩:∃wG,wG=kT cap cl fin (.slice a l.length c) (wo.alloc (oI x)):=⟨_,rfl⟩;rw[<-hwG]at ajK hfn agC hRW hbG;obtain⟨g,hg⟩:∃g,g=wo.heap.size+1:=⟨_,rfl⟩;rw[<-hg]at ajK hfn agC hRW hbG;have Hg:=zH hg;have ape:g<=wo.heap.size+1:=by omega
   have apf:wo.heap.size<g:=by omega
   have aoV:g+1+1<wG.heap.size:=by omega
   have HFN:=zH hfn;have HRW:=zH hRW;clear hwG hfn agC hRW hg hs1;go_wp2_with (refine(ajw HRW.out).mono ?_;rintro e w' ⟨rfl,rfl⟩)
   go_loopw [52] (λvj wr=>∃(j:Nat),j<=8/\vj=.int .i64 j/\Hid (∀r,r<j->fU cap cl fin l i r=true)/\Below wG.heap.size wG wr) (λvj _=>8-(RowKit.intOf vj).toNat)
   case atStart=>exact⟨0,by omega,rfl,zH λi hi=>by omega,zB _ _⟩
   case round=>
    obtain⟨j,hj8,rfl,HJ,hbi⟩:=hrel;have BB:Ctx cap cl fin (.slice a l.length c) l i v' g wr.drew:=(ajK.keep hbi).keep (zB _ _).drew;have alL:Below g (wo.alloc (oI x)) wr:=hbG.trans (hbi.mono (by omega));have apo:wG.heap.size<=wr.heap.size:=hbi.size;have hy2:wr.cell? ⟨w.heap.size,2,none⟩=some (.slice a l.length c):=(alL.cell (p:=⟨w.heap.size,2,none⟩) (by simp only;omega)).trans ((World.cell?_alloc_lt _ _ _ (by simp only;omega)).trans ht2);have Iy:∀k,wr.cell? ⟨wo.heap.size,k,none⟩=(#[Value.int .i64 x.num,.int .i64 x.dm,.int .i64 x.st,.int .i64 x.len,.int .i64 x.nx,.int .i64 x.dZ,.int .i64 x.pk])[k]?:=λk=>
     (alL.cell (p:=⟨wo.heap.size,k,none⟩) (by simp only;omega)).trans (by simp[go_sem])
    have hx0:=Iy 0;have hx1:=Iy 1;have hx2:=Iy 2;have hx3:=Iy 3;have hx4:=Iy 4;have hx5:=Iy 5;have hx6:=Iy 6;simp only[List.getElem?_toArray,Yg,Yi]at hx0 hx1 hx2 hx3 hx4 hx5 hx6;clear Iy ht0 ht1 ht2;by_cases hjl:j<8
    ·have api:∀W,(Instr.indexAt 334 (.slice (some ⟨g+1+1,0,none⟩) 8 8) (.int .i64 (j:Int))).run prog W=.ok (.pointer (some ⟨g+1+1,j,none⟩)) W:=λW=>by have:=bJ (P:=prog) (cap:=8) underlying334 sizeRule (rfl:some (⟨g+1+1,0,none⟩:Addr)=_) hjl _ rfl W;rwa[Yf]at this
     rcases(by omega:j=0\/j=1\/j=2\/j=3\/j=4\/j=5\/j=6\/j=7) with hj|hj|hj|hj|hj|hj|hj|hj
     ·have hfv:wr.cell? ⟨g+1+1,j,none⟩=some (.func (.func 307) #[] #[]):=(hbi.cell (p:=⟨g+1+1,j,none⟩) (by simp only;omega)).trans (by rw[HFN.out,hj];rfl);have hcon:Calls prog 307 #[v',jL x] wr.drew (RB (fU cap cl fin l i 0) wr.drew):=by rw[Hx.out];exact alm Oo.out _ BB
      generalize hq:fU cap cl fin l i 0=q at hcon;have HQ:=zH hq;clear hq;have Hj:=zH hj;clear hj;have iG:=zH hcon;clear hcon;cases q;all_goals
       go_wp2_with fail;go_still_tail 7,(by kernel_rfl);change wpList _ _ _ _ _ wr.drew;go_wp2_with (refine iG.out.mono ?_;rintro e w2 ⟨rfl,hb2⟩);first
        | (go_ret
           refine⟨iT (Eq.symm ?_),(hb0.alloc (by omega) _).trans ((hbG.mono (by omega)).trans ((hbi.mono (by omega)).drew.trans (hb2.mono (by show _<=wr.heap.size;omega))))⟩;rw[T.dX,<-T.iC];intro h;have h7:=(kz cap cl fin l i).2 (h.2.2.2.2.2.2.1 i hlt) 0 (by omega);rw[HQ.out]at h7;cases h7)
        | (go_roundw
           case rel=>
            refine⟨j+1,by omega,by go_num,zH λr hr=>?_,hbi.drew.trans (hb2.mono (by show _<=wr.heap.size;omega))⟩;by_cases e9:r<j
            ·exact HJ.out r e9
            ·have e10:r=0:=by have:=Hj.out;omega
             rw[e10];exact HQ.out
           case measure=>simp[RowKit.intOf];omega)
     ·have hfv:wr.cell? ⟨g+1+1,j,none⟩=some (.func (.func 308) #[] #[]):=(hbi.cell (p:=⟨g+1+1,j,none⟩) (by simp only;omega)).trans (by rw[HFN.out,hj];rfl);have hcon:Calls prog 308 #[v',jL x] wr.drew (RB (fU cap cl fin l i 1) wr.drew):=by rw[Hx.out];exact aln Oo.out _ BB
      generalize hq:fU cap cl fin l i 1=q at hcon;have HQ:=zH hq;clear hq;have Hj:=zH hj;clear hj;have iG:=zH hcon;clear hcon;cases q;all_goals
       go_wp2_with fail;go_still_tail 7,(by kernel_rfl);change wpList _ _ _ _ _ wr.drew;go_wp2_with (refine iG.out.mono ?_;rintro e w2 ⟨rfl,hb2⟩);first
        | (go_ret
           refine⟨iT (Eq.symm ?_),(hb0.alloc (by omega) _).trans ((hbG.mono (by omega)).trans ((hbi.mono (by omega)).drew.trans (hb2.mono (by show _<=wr.heap.size;omega))))⟩;rw[T.dX,<-T.iC];intro h;have h7:=(kz cap cl fin l i).2 (h.2.2.2.2.2.2.1 i hlt) 1 (by omega);rw[HQ.out]at h7;cases h7)
        | (go_roundw
           case rel=>
            refine⟨j+1,by omega,by go_num,zH λr hr=>?_,hbi.drew.trans (hb2.mono (by show _<=wr.heap.size;omega))⟩;by_cases e9:r<j
            ·exact HJ.out r e9
            ·have e10:r=1:=by have:=Hj.out;omega
             rw[e10];exact HQ.out
           case measure=>simp[RowKit.intOf];omega)
     ·have hfv:wr.cell? ⟨g+1+1,j,none⟩=some (.func (.func 309) #[] #[.pointer (some ⟨g+1,0,none⟩)]):=(hbi.cell (p:=⟨g+1+1,j,none⟩) (by simp only;omega)).trans (by rw[HFN.out,hj];rfl);have hcon:Calls prog 309 #[v',jL x,.pointer (some ⟨g+1,0,none⟩)] wr.drew (RB (fU cap cl fin l i 2) wr.drew):=by rw[Hx.out];exact call2 Oo.out _ BB
      generalize hq:fU cap cl fin l i 2=q at hcon;have HQ:=zH hq;clear hq;have Hj:=zH hj;clear hj;have iG:=zH hcon;clear hcon;cases q;all_goals
       go_wp2_with fail;go_still_tail 7,(by kernel_rfl);change wpList _ _ _ _ _ wr.drew;go_wp2_with (refine iG.out.mono ?_;rintro e w2 ⟨rfl,hb2⟩);first
        | (go_ret
           refine⟨iT (Eq.symm ?_),(hb0.alloc (by omega) _).trans ((hbG.mono (by omega)).trans ((hbi.mono (by omega)).drew.trans (hb2.mono (by show _<=wr.heap.size;omega))))⟩;rw[T.dX,<-T.iC];intro h;have h7:=(kz cap cl fin l i).2 (h.2.2.2.2.2.2.1 i hlt) 2 (by omega);rw[HQ.out]at h7;cases h7)
        | (go_roundw
           case rel=>
            refine⟨j+1,by omega,by go_num,zH λr hr=>?_,hbi.drew.trans (hb2.mono (by show _<=wr.heap.size;omega))⟩;by_cases e9:r<j
            ·exact HJ.out r e9
            ·have e10:r=2:=by have:=Hj.out;omega
             rw[e10];exact HQ.out
           case measure=>simp[RowKit.intOf];omega)
     ·have hfv:wr.cell? ⟨g+1+1,j,none⟩=some (.func (.func 310) #[] #[.pointer (some ⟨g+1,0,none⟩)]):=(hbi.cell (p:=⟨g+1+1,j,none⟩) (by simp only;omega)).trans (by rw[HFN.out,hj];rfl);have hcon:Calls prog 310 #[v',jL x,.pointer (some ⟨g+1,0,none⟩)] wr.drew (RB (fU cap cl fin l i 3) wr.drew):=by rw[Hx.out];exact call3 Oo.out _ BB
      generalize hq:fU cap cl fin l i 3=q at hcon;have HQ:=zH hq;clear hq;have Hj:=zH hj;clear hj;have iG:=zH hcon;clear hcon;cases q;all_goals
       go_wp2_with fail;go_still_tail 7,(by kernel_rfl);change wpList _ _ _ _ _ wr.drew;go_wp2_with (refine iG.out.mono ?_;rintro e w2 ⟨rfl,hb2⟩);first
        | (go_ret
           refine⟨iT (Eq.symm ?_),(hb0.alloc (by omega) _).trans ((hbG.mono (by omega)).trans ((hbi.mono (by omega)).drew.trans (hb2.mono (by show _<=wr.heap.size;omega))))⟩;rw[T.dX,<-T.iC];intro h;have h7:=(kz cap cl fin l i).2 (h.2.2.2.2.2.2.1 i hlt) 3 (by omega);rw[HQ.out]at h7;cases h7)
        | (go_roundw
           case rel=>
            refine⟨j+1,by omega,by go_num,zH λr hr=>?_,hbi.drew.trans (hb2.mono (by show _<=wr.heap.size;omega))⟩;by_cases e9:r<j
            ·exact HJ.out r e9
            ·have e10:r=3:=by have:=Hj.out;omega
             rw[e10];exact HQ.out
           case measure=>simp[RowKit.intOf];omega)
     ·have hfv:wr.cell? ⟨g+1+1,j,none⟩=some (.func (.func 311) #[] #[]):=(hbi.cell (p:=⟨g+1+1,j,none⟩) (by simp only;omega)).trans (by rw[HFN.out,hj];rfl);have hcon:Calls prog 311 #[v',jL x] wr.drew (RB (fU cap cl fin l i 4) wr.drew):=by rw[Hx.out];exact call4 Oo.out _ BB
      generalize hq:fU cap cl fin l i 4=q at hcon;have HQ:=zH hq;clear hq;have Hj:=zH hj;clear hj;have iG:=zH hcon;clear hcon;cases q;all_goals
       go_wp2_with fail;go_still_tail 7,(by kernel_rfl);change wpList _ _ _ _ _ wr.drew;go_wp2_with (refine iG.out.mono ?_;rintro e w2 ⟨rfl,hb2⟩);first
        | (go_ret
           refine⟨iT (Eq.symm ?_),(hb0.alloc (by omega) _).trans ((hbG.mono (by omega)).trans ((hbi.mono (by omega)).drew.trans (hb2.mono (by show _<=wr.heap.size;omega))))⟩;rw[T.dX,<-T.iC];intro h;have h7:=(kz cap cl fin l i).2 (h.2.2.2.2.2.2.1 i hlt) 4 (by omega);rw[HQ.out]at h7;cases h7)
        | (go_roundw
           case rel=>
            refine⟨j+1,by omega,by go_num,zH λr hr=>?_,hbi.drew.trans (hb2.mono (by show _<=wr.heap.size;omega))⟩;by_cases e9:r<j
            ·exact HJ.out r e9
            ·have e10:r=4:=by have:=Hj.out;omega
             rw[e10];exact HQ.out
           case measure=>simp[RowKit.intOf];omega)
     ·have hfv:wr.cell? ⟨g+1+1,j,none⟩=some (.func (.func 312) #[] #[.pointer (some ⟨g,0,none⟩)]):=(hbi.cell (p:=⟨g+1+1,j,none⟩) (by simp only;omega)).trans (by rw[HFN.out,hj];rfl);have hcon:Calls prog 312 #[v',jL x,.pointer (some ⟨g,0,none⟩)] wr.drew (RB (fU cap cl fin l i 5) wr.drew):=by rw[Hx.out];exact call5 Oo.out _ BB
      generalize hq:fU cap cl fin l i 5=q at hcon;have HQ:=zH hq;clear hq;have Hj:=zH hj;clear hj;have iG:=zH hcon;clear hcon;cases q;all_goals
       go_wp2_with fail;go_still_tail 7,(by kernel_rfl);change wpList _ _ _ _ _ wr.drew;go_wp2_with (refine iG.out.mono ?_;rintro e w2 ⟨rfl,hb2⟩);first
        | (go_ret
           refine⟨iT (Eq.symm ?_),(hb0.alloc (by omega) _).trans ((hbG.mono (by omega)).trans ((hbi.mono (by omega)).drew.trans (hb2.mono (by show _<=wr.heap.size;omega))))⟩;rw[T.dX,<-T.iC];intro h;have h7:=(kz cap cl fin l i).2 (h.2.2.2.2.2.2.1 i hlt) 5 (by omega);rw[HQ.out]at h7;cases h7)
        | (go_roundw
           case rel=>
            refine⟨j+1,by omega,by go_num,zH λr hr=>?_,hbi.drew.trans (hb2.mono (by show _<=wr.heap.size;omega))⟩;by_cases e9:r<j
            ·exact HJ.out r e9
            ·have e10:r=5:=by have:=Hj.out;omega
             rw[e10];exact HQ.out
           case measure=>simp[RowKit.intOf];omega)
     ·have hfv:wr.cell? ⟨g+1+1,j,none⟩=some (.func (.func 313) #[] #[]):=(hbi.cell (p:=⟨g+1+1,j,none⟩) (by simp only;omega)).trans (by rw[HFN.out,hj];rfl);have hcon:Calls prog 313 #[v',jL x] wr.drew (RB (fU cap cl fin l i 6) wr.drew):=by rw[Hx.out];exact call6 Oo.out _ BB
      generalize hq:fU cap cl fin l i 6=q at hcon;have HQ:=zH hq;clear hq;have Hj:=zH hj;clear hj;have iG:=zH hcon;clear hcon;cases q;all_goals
       go_wp2_with fail;go_still_tail 7,(by kernel_rfl);change wpList _ _ _ _ _ wr.drew;go_wp2_with (refine iG.out.mono ?_;rintro e w2 ⟨rfl,hb2⟩);first
        | (go_ret
           refine⟨iT (Eq.symm ?_),(hb0.alloc (by omega) _).trans ((hbG.mono (by omega)).trans ((hbi.mono (by omega)).drew.trans (hb2.mono (by show _<=wr.heap.size;omega))))⟩;rw[T.dX,<-T.iC];intro h;have h7:=(kz cap cl fin l i).2 (h.2.2.2.2.2.2.1 i hlt) 6 (by omega);rw[HQ.out]at h7;cases h7)
        | (go_roundw
           case rel=>
            refine⟨j+1,by omega,by go_num,zH λr hr=>?_,hbi.drew.trans (hb2.mono (by show _<=wr.heap.size;omega))⟩;by_cases e9:r<j
            ·exact HJ.out r e9
            ·have e10:r=6:=by have:=Hj.out;omega
             rw[e10];exact HQ.out
           case measure=>simp[RowKit.intOf];omega)
     ·have hfv:wr.cell? ⟨g+1+1,j,none⟩=some (.func (.func 314) #[] #[]):=(hbi.cell (p:=⟨g+1+1,j,none⟩) (by simp only;omega)).trans (by rw[HFN.out,hj];rfl);have hcon:Calls prog 314 #[v',jL x] wr.drew (RB (fU cap cl fin l i 7) wr.drew):=by rw[Hx.out];exact call7 Oo.out _ BB
      generalize hq:fU cap cl fin l i 7=q at hcon;have HQ:=zH hq;clear hq;have Hj:=zH hj;clear hj;have iG:=zH hcon;clear hcon;cases q;all_goals
       go_wp2_with fail;go_still_tail 7,(by kernel_rfl);change wpList _ _ _ _ _ wr.drew;go_wp2_with (refine iG.out.mono ?_;rintro e w2 ⟨rfl,hb2⟩);first
        | (go_ret
           refine⟨iT (Eq.symm ?_),(hb0.alloc (by omega) _).trans ((hbG.mono (by omega)).trans ((hbi.mono (by omega)).drew.trans (hb2.mono (by show _<=wr.heap.size;omega))))⟩;rw[T.dX,<-T.iC];intro h;have h7:=(kz cap cl fin l i).2 (h.2.2.2.2.2.2.1 i hlt) 7 (by omega);rw[HQ.out]at h7;cases h7)
        | (go_roundw
           case rel=>
            refine⟨j+1,by omega,by go_num,zH λr hr=>?_,hbi.drew.trans (hb2.mono (by show _<=wr.heap.size;omega))⟩;by_cases e9:r<j
            ·exact HJ.out r e9
            ·have e10:r=7:=by have:=Hj.out;omega
             rw[e10];exact HQ.out
           case measure=>simp[RowKit.intOf];omega)
    ·have hJ8:∀r,r<8->fU cap cl fin l i r=true:=λr hr=>HJ.out r (by omega)
     have vG:=zH ((kz cap cl fin l i).1 hJ8);clear hJ8;have hd8:decide ((j:Int)<8)=false:=by rw[Yv];omega
     go_wp2_with fail;go_roundw;case rel=>
      refine⟨i+1,by omega,by go_num,zH λm hm=>?_,(hb.alloc (by omega) _).trans ((hbG.mono (by omega)).trans (hbi.mono (by omega)))⟩;by_cases e9:m<i
      ·exact HO.out m e9
      ·obtain rfl:m=i:=by omega
       exact vG.out
     case measure=>simp[RowKit.intOf];omega
  ·obtain rfl:i=l.length:=by omega
   have hE:T.az cap cl fin l=(decide (cl=0) || (decide (0<l.length) && decide (cl<=T.sB l l.length))):=by rw[YJ,T.bz,<-T.iC];unfold T.Vw;simp only[Yt,Xq,Yj];exact⟨λh=>h.2.2.2.2.2.2.2,λh=>⟨h1,h2,h3,h4,h5,H6.out,HO.out,h⟩⟩
   by_cases hc0:cl=0
   ·have hz:(cl == 0)=true:=by rw[YG];exact hc0
    have HEq:Hid (T.az cap cl fin l=true):=zH (by rw[hE];simp[hc0]);clear hE hc0 hlt hi;go_wp2_with fail;go_quiet (fail);go_wp2_with fail;go_ret;exact⟨iT HEq.out.symm,Below.drewN hb0 _⟩
   ·have hz:(cl == 0)=false:=by rw[Yc];exact hc0
    by_cases hn:0<l.length
    ·obtain⟨m,hm⟩:∃m,l.length=m+1:=⟨l.length-1,by omega⟩;obtain⟨ha,hrange⟩:=HC.out m (by omega);have hsl:T.sB l l.length=(T.tr l m).dm:=by rw[hm];exact T.fV l m
     have hq:T.az cap cl fin l=decide (cl<=(T.tr l m).dm):=by rw[hE,hsl];simp[hc0,hn]
     obtain⟨x,hx⟩:∃x,x=T.tr l m:=⟨_,rfl⟩;rw[<-hx]at hrange hq;have HEq:=zH hq;have hml:m<l.length:=by omega
     have hm1:((l.length:Int)-1)=(m:Int):=by omega
     have hix:=λw'=>aB underlying35 sizeTrack (cap:=c) ha hml _ rfl w'
     have hrg:wo.rangeAt b (off+m*7) (kK x):=λj u hu=>(hb.cell (p:=⟨b,off+m*7+j,none⟩) (by
      have:=zc w _ (hrange j u hu);simp only at this ⊢;omega)).trans (by
      have:=zc w _ (hrange j u hu);rw[World.cell?_alloc_lt _ _ _ this];exact hrange j u hu)
     obtain⟨hc0',hc1,hc2,hc3,hc4,hc5,hc6⟩:=Oh hrg;have Ha:=zH ha;have hd0:decide (0<l.length)=true:=zt hn;have hwp:IntKind.i64.wrap ((l.length:Int)-1)=m:=by rw[hm1];exact IntWalk.i64_in _ (by omega)
     have Hm:=zH hm;have Hm1:=zH hm1;clear hrange hrg ha hE hc0 hlt hi hsl hx hq hn hm;go_wp2_with fail;go_quiet (fail);go_wp2_with fail;go_ret;exact⟨iT (by rw[HEq.out]),Below.drewN hb0 _⟩
    ·have hd0:decide (0<l.length)=false:=zf hn;have HEq:Hid (T.az cap cl fin l=false):=zH (by rw[hE];simp[hc0,hn]);clear hE hc0 hlt hi hn;go_wp2_with fail;go_quiet (fail);go_wp2_with fail;go_ret;exact⟨iT HEq.out.symm,Below.drewN hb0 _⟩
theorem gY(cap cl:Int)(fin:Bool)(sv:Value)(l:List T.ax)(w:World)(hr:bQ w sv l)(hf:KA l):
 Calls prog 164 #[.int .i64 cap,aN cl fin sv] w (KJ cap cl fin l w):=by
 by_cases h:1<=cap/\cap<=449849/\l.length<=99/\0<=cl/\cl<=16/\¬ (fin=true/\cl=0)
 ·obtain⟨h1,h2,h3,h4,h5,h6⟩:=h;exact ae9 cap cl fin sv l w hr hf h1 h2 h3 h4 h5 h6
 ·exact J8 cap cl fin sv l w hr h (by have:=hf.1;omega)
def St(W:World)(N:Nat)(cl:Int)(fin:Bool)(sv:Value):Prop:=
 W.heap[N]? = some (.cells #[.int .i64 cl,.bool fin,sv] 37 (0,0))/\W.heap[N+1]? = some (.cells #[.int .i64 0,.bool false,.slice none 0 0] 37 (0,0))
abbrev alj(w:World)(cl:Int)(fin:Bool)(sv:Value):World:=
 (w.alloc (.cells #[.int .i64 cl,.bool fin,sv] 37)).alloc (.cells #[.int .i64 0,.bool false,.slice none 0 0] 37)
section
variable {W W':World} {N:Nat} {cl:Int} {fin:Bool} {sv:Value}
theorem St.new(w:World)(cl:Int)(fin:Bool)(sv:Value):St (alj w cl fin sv) w.heap.size cl fin sv:=by
 refine⟨?_,?_⟩
 ·exact heap_alloc2_old _ _ _
 ·exact heap_alloc2_new _ _ _
theorem St.lt(h:St W N cl fin sv):N+1<W.heap.size:=(Yd.1 h.2).1
theorem St.keep(h:St W N cl fin sv){B:Nat}(hb:Below B W W')(hB:N+1<B):St W' N cl fin sv:=⟨(hb.block N (by omega)).trans h.1,(hb.block (N+1) hB).trans h.2⟩
theorem St.call(h:St W N cl fin sv)(hb:Below W.heap.size W W'):St W' N cl fin sv:=h.keep hb h.lt
theorem St.grown(h:St W N cl fin sv){g:Nat}(hb:W.grownBy W' (some g))(hg:N+1<g):St W' N cl fin sv:=
 ⟨(hb.block N (by have:=h.lt;omega) (λe=>by have:=zs e;omega)).trans h.1,(hb.block (N+1) h.lt (λe=>by have:=zs e;omega)).trans h.2⟩
theorem St.alloc(h:St W N cl fin sv)(o:Obj):St (W.alloc o) N cl fin sv:=h.keep ((zB _ _).alloc (zl _) o) h.lt
theorem St.far(h:St W N cl fin sv){p:Addr}(hp:N+1<p.block)(u:Value):St (W.setCell p u) N cl fin sv:=
 ⟨(zh W p u N (by omega)).trans h.1,(zh W p u (N+1) (by omega)).trans h.2⟩
theorem St.facts(h:St W N cl fin sv):W.cell? ⟨N,0,none⟩=some (.int .i64 cl)/\W.cell? ⟨N,1,none⟩=some (.bool fin)/\W.cell? ⟨N,2,none⟩=some sv/\
 W.cell? ⟨N+1,0,none⟩=some (.int .i64 0)/\W.cell? ⟨N+1,1,none⟩=some (.bool false)/\W.cell? ⟨N+1,2,none⟩=some (.slice none 0 0)/\
 (∀k,W.frozen? ⟨N,k,none⟩=false)/\(∀k,W.frozen? ⟨N+1,k,none⟩=false):=by
 obtain⟨h1,h2⟩:=h;refine⟨Xd _ _ _ _ _ _ h1,Xd _ _ _ _ _ _ h1,Xd _ _ _ _ _ _ h1,Xd _ _ _ _ _ _ h2,Xd _ _ _ _ _ _ h2,Xd _ _ _ _ _ _ h2,λk=>?_,λk=>?_⟩
 ·simp[World.frozen?,h1]
 ·simp[World.frozen?,h2]
theorem setB{W:World}{g:Nat}{t:TypeId}{cs:Array Value}(h:W.heap[g]? = some (.cells cs t (0,0)))(i:Nat)(u:Value):(W.setCell ⟨g,i,none⟩ u).heap[g]? = some (.cells (cs.setIfInBounds i u) t (0,0)):=by simp[World.setCell,Array.getElem?_modify,h]
theorem St.put(h:St W N cl fin sv)(cl':Int)(fin':Bool)(sv':Value):St (((W.setCell ⟨N,0,none⟩ (.int .i64 cl')).setCell ⟨N,1,none⟩ (.bool fin')).setCell ⟨N,2,none⟩ sv') N cl' fin' sv':=by
 refine⟨?_,?_⟩
 ·exact setB (setB (setB h.1 0 _) 1 _) 2 _
 ·rw[zh _ _ _ _ (by simp),zh _ _ _ _ (by simp),zh _ _ _ _ (by simp)];exact h.2
end
theorem iI(w:World)(cl:Int)(fin:Bool)(sv:Value):Below w.heap.size w (alj w cl fin sv):=((zB _ _).alloc (zl _) _).alloc (by simp) _
theorem rE{w:World}{base e size n:Nat}{v:Value}{xs:List Value}(h:w.ownsRow base e size v n xs):∀k,v.ownBlock=some k->base<=k:=by
 intro k hk;rcases h.2 with ⟨rfl,_⟩|⟨g,cap,cur,rfl,hb,_⟩
 ·simp[Value.ownBlock]at hk
 ·have:g=k:=by simpa[Value.ownBlock]using hk
  omega
theorem St.own{W W':World}{N:Nat}{cl:Int}{fin:Bool}{sv v:Value}{base e size n:Nat}{xs:List Value}(h:St W N cl fin sv)(ho:W.ownsRow base e size v n xs)(hb:W.grownBy W' v.ownBlock)(hB:N+1<base)(hB2:base<=W.heap.size):St W' N cl fin sv:=
 h.keep ((zB base W).grown hb hB2 (rE ho)) hB
theorem bQ.one(W:World)(y:T.ax):bQ (W.alloc (oI y)) (.slice (some ⟨W.heap.size,0,none⟩) 1 1) [y]:=by have h:=Xc (base:=W.heap.size) (e:=94) (size:=7) W #[.int .i64 y.num,.int .i64 y.dm,.int .i64 y.st,.int .i64 y.len,.int .i64 y.nx,.int .i64 y.dZ,.int .i64 y.pk] 1 (zl _) (by simp[maxLen]) (by simp);exact bQ.bg (l:=[y]) h
structure je where
 cl:Int
 fin:Bool
 l:List T.ax
 code:Int
def je.bad(c:Int):je:=⟨0,false,[],c⟩
theorem aeS(cl:Int)(l:List T.ax):(if l.length=0 then(0:Int) else if (T.tr l (l.length-1)).dm<cl+1 then(T.tr l (l.length-1)).st+(T.tr l (l.length-1)).len+16 else(T.tr l (l.length-1)).st+(T.tr l (l.length-1)).len)=T.AY cl l:=by
 unfold T.AY T.sB T.eB;by_cases h:l.length=0
 ·rw[zj h,zj h]
 ·rw[zi h,zi h,zi h,zi h];by_cases h2:(T.tr l (l.length-1)).dm<cl+1
  ·rw[zj h2,zj (by omega)]
  ·rw[zi h2,zi (by omega)]
theorem Y9{cap cl:Int}{fin:Bool}{l:List T.ax}(h:T.aK cap cl fin l):0<=T.AY cl l/\T.AY cl l<=449865:=by
 have:=T.okR.bds h.2.1 h.2.2.2.2.2.1;unfold T.AY;split
 ·omega
 ·split <;> omega
instance (c p:Int):Decidable (T.um c p):=by unfold T.um;infer_instance
def bZ(cap cl:Int)(fin:Bool)(l:List T.ax)(count pk:Int):je:=
 if T.az cap cl fin l=false then je.bad 1 else if fin=true then je.bad 15 else if ¬ T.um count pk then je.bad 1
 else if l.length=99\/cl=16 then je.bad 7 else if cap-T.AY cl l<count then je.bad 12 else⟨cl,fin,l++[T.Qq cl l count pk],0⟩
def lF(l:List T.ax)(aj:Int):Nat->Option Nat
 |0=>none
 |n+1=>if (T.tr l n).dZ≠2/\(T.tr l n).nx=aj then some n else lF l aj n
def aW(cap cl:Int)(fin:Bool)(l:List T.ax)(aj count:Int):je:=
 if T.az cap cl fin l=false then je.bad 1 else
 match lF l aj l.length with
 |none=>je.bad 2
 |some i=>if ¬ T.um count (T.tr l i).pk then je.bad 1 else if (T.tr l i).st+(T.tr l i).len-(T.tr l i).nx<count then je.bad 12 else⟨cl,fin,l.set i (T.grown (T.tr l i) count),0⟩
theorem xK{cap cl:Int}{fin:Bool}{l:List T.ax}{aj count:Int}(hV:T.az cap cl fin l=true)(h:lF l aj l.length=none):aW cap cl fin l aj count=je.bad 2:=by unfold aW;rw[zi (by rw[hV];simp),h]
theorem xM{cap cl:Int}{fin:Bool}{l:List T.ax}{aj count:Int}{i:Nat}(hV:T.az cap cl fin l=true)(h:lF l aj l.length=some i):
 aW cap cl fin l aj count=if ¬ T.um count (T.tr l i).pk then je.bad 1 else if (T.tr l i).st+(T.tr l i).len-(T.tr l i).nx<count then je.bad 12 else⟨cl,fin,l.set i (T.grown (T.tr l i) count),0⟩:=by
 unfold aW;rw[zi (by rw[hV];simp),h]
def Y6(l:List T.ax)(i:Nat):Bool:=decide ((T.tr l i).dZ=1/\(i+1=l.length\/(T.tr l i).nx=(T.tr l i).st+(T.tr l i).len))
def iJ(cap cl:Int)(fin:Bool)(l:List T.ax)(number:Int):je:=
 if T.az cap cl fin l=false then je.bad 1 else if number<1\/(l.length:Int)<number then je.bad 6
 else if Y6 l (number.toNat-1)=false then je.bad 8 else⟨cl,fin,l.set (number.toNat-1) (T.JV (T.tr l (number.toNat-1))),0⟩
def OA(p:Nat->Bool)(n:Nat):Bool:=(List.range n).any p
theorem Zw{p:Nat->Bool}{n:Nat}:OA p n=true↔∃m,m<n/\p m=true:=by simp[OA]
theorem DY{p:Nat->Bool}{n:Nat}:OA p n=false↔∀m,m<n->p m=false:=by simp[OA]
def Uw(cl:Int)(l:List T.ax)(m:Nat):Bool:=decide (cl<(T.tr l m).dm)
def NL(l:List T.ax)(m:Nat):Bool:=decide ((T.tr l m).dZ≠2)
def jy(cap cl:Int)(fin:Bool)(l:List T.ax)(fz:Bool):je:=
 if T.az cap cl fin l=false then je.bad 1 else if fin=true then je.bad 15 else if OA (NL l) l.length=true then je.bad 8
 else if OA (Uw cl l) l.length=true then⟨cl+1,fz,l,0⟩ else if fz=false\/cl=0 then je.bad 8 else⟨cl,true,l,0⟩
def i64(a:Int):Prop:=-9223372036854775808<=a/\a<=9223372036854775807
def sO(w:World)(B:Nat)(v:Value)(l:List T.ax):Prop:=bQ w v l/\∀k,v.ownBlock=some k->B<=k
theorem sO.nil(w:World)(B:Nat):sO w B (.slice none 0 0) []:=⟨bQ.nil w,λk hk=>by cases hk⟩
theorem sO.bg{w:World}{B base:Nat}{v:Value}{l:List T.ax}(h:w.ownsRow base 94 7 v l.length (fl l))(hb:B<=base):sO w B v l:=
 ⟨bQ.bg h,λk hk=>zT hb (rE h k hk)⟩
def OpF(r:je)(w:World)(e:Ending)(w':World):Prop:=
 ∃v,e=.returned (.tuple #[aN r.cl r.fin v,.int .i64 r.code])/\sO w' w.heap.size v r.l/\Below w.heap.size w w'
theorem QH(cap cl:Int)(fin:Bool)(sv:Value)(l:List T.ax)(count pk:Int)(w:World)(hr:bQ w sv l)(hf:KA l)(hV:T.az cap cl fin l=false):Calls prog 156 #[.int .i64 cap,aN cl fin sv,.int .i64 count,.int .i64 pk] w (OpF (je.bad 1) w):=by
 obtain⟨a,c,rfl,hac⟩:=dU.form hr;have hb0:=iI w cl fin (.slice a l.length c);have hcon:=gY cap cl fin _ l _ (hr.keep hb0) hf;have iG:=zH hcon;clear hcon;have nN:=St.new w cl fin (.slice a l.length c);have HV:=zH hV;clear hV;go_enter func156,ntmps156;go_wp2_with fail;refine iG.out.mono ?_;rintro e w1 ⟨rfl,hb⟩;rw[HV.out];have hst:=nN.call hb;have hb1:=hb0.trans (hb.mono hb0.size);obtain⟨ht0,ht1,ht2,hs0,hs1,hs2,hf0,hf1⟩:=hst.facts;have hw1:=hst.lt;have hw0:w.heap.size<w1.heap.size:=by omega
 clear hb nN hb0;go_wp2_with fail;refine zr (v:=.tuple #[aN 0 false (.slice none 0 0),.int .i64 1]) (by simp[results,results156,go_sem,hs0,hs1,hs2]) rfl ⟨_,rfl,sO.nil _ _,?_⟩;exact((hb1.setCell (by simp) _).setCell (by simp) _).setCell (by simp) _
theorem QI(cap cl:Int)(sv:Value)(l:List T.ax)(count pk:Int)(w:World)(hr:bQ w sv l)(hf:KA l)(hV:T.az cap cl true l=true):Calls prog 156 #[.int .i64 cap,aN cl true sv,.int .i64 count,.int .i64 pk] w (OpF (je.bad 15) w):=by
 obtain⟨a,c,rfl,hac⟩:=dU.form hr;have hb0:=iI w cl true (.slice a l.length c);have hcon:=gY cap cl true _ l _ (hr.keep hb0) hf;have iG:=zH hcon;clear hcon;have nN:=St.new w cl true (.slice a l.length c);have HV:=zH hV;clear hV;go_enter func156,ntmps156;go_wp2_with fail;refine iG.out.mono ?_;rintro e w1 ⟨rfl,hb⟩;rw[HV.out];have hst:=nN.call hb;have hb1:=hb0.trans (hb.mono hb0.size);obtain⟨ht0,ht1,ht2,hs0,hs1,hs2,hf0,hf1⟩:=hst.facts;have hw1:=hst.lt;have hw0:w.heap.size<w1.heap.size:=by omega
 clear hb nN hb0;go_wp2_with fail;refine zr (v:=.tuple #[aN 0 false (.slice none 0 0),.int .i64 15]) (by simp[results,results156,go_sem,hs0,hs1,hs2]) rfl ⟨_,rfl,sO.nil _ _,?_⟩;exact((hb1.setCell (by simp) _).setCell (by simp) _).setCell (by simp) _
theorem QJ(cap cl:Int)(sv:Value)(l:List T.ax)(count pk:Int)(w:World)(hr:bQ w sv l)(hf:KA l)(hV:T.az cap cl false l=true)(hp:¬ T.um count pk)(hi:-9223372036854775808<=count/\count<=9223372036854775807):Calls prog 156 #[.int .i64 cap,aN cl false sv,.int .i64 count,.int .i64 pk] w (OpF (je.bad 1) w):=by
 have HI:=zH hi;clear hi;have HP:Hid (decide (1<=count/\0<=pk/\pk<=1024/\(0<pk->count.tmod pk=0))=false):=zH (zf hp);clear hp;obtain⟨a,c,rfl,hac⟩:=dU.form hr;have hb0:=iI w cl false (.slice a l.length c);have hcon:=gY cap cl false _ l _ (hr.keep hb0) hf;have iG:=zH hcon;clear hcon;have nN:=St.new w cl false (.slice a l.length c);have HV:=zH hV;clear hV;go_enter func156,ntmps156;go_wp2_with fail;refine iG.out.mono ?_;rintro e w1 ⟨rfl,hb⟩;rw[HV.out];have hst:=nN.call hb;have hb1:=hb0.trans (hb.mono hb0.size);obtain⟨ht0,ht1,ht2,hs0,hs1,hs2,hf0,hf1⟩:=hst.facts;have hw1:=hst.lt;have hw0:w.heap.size<w1.heap.size:=by omega
 clear hb nN hb0;go_wp2_with fail;refine(iR count pk _ HI.out.1 HI.out.2).mono ?_;rintro e w2 ⟨rfl,rfl⟩;rw[HP.out];go_wp2_with fail;refine zr (v:=.tuple #[aN 0 false (.slice none 0 0),.int .i64 1]) (by simp[results,results156,go_sem,hs0,hs1,hs2]) rfl ⟨_,rfl,sO.nil _ _,?_⟩;exact((hb1.setCell (by simp) _).setCell (by simp) _).setCell (by simp) _
theorem QK(cap cl:Int)(sv:Value)(l:List T.ax)(count pk:Int)(w:World)(hr:bQ w sv l)(hf:KA l)(hV:T.az cap cl false l=true)(hp:T.um count pk)(hi:-9223372036854775808<=count/\count<=9223372036854775807)(hx:l.length=99\/cl=16):Calls prog 156 #[.int .i64 cap,aN cl false sv,.int .i64 count,.int .i64 pk] w (OpF (je.bad 7) w):=by
 have HI:=zH hi;clear hi;have HP:Hid (decide (1<=count/\0<=pk/\pk<=1024/\(0<pk->count.tmod pk=0))=true):=zH (zt hp);clear hp;obtain⟨a,c,rfl,hac⟩:=dU.form hr;have hb0:=iI w cl false (.slice a l.length c);have hcon:=gY cap cl false _ l _ (hr.keep hb0) hf;have iG:=zH hcon;clear hcon;have nN:=St.new w cl false (.slice a l.length c);have HV:=zH hV;clear hV;go_enter func156,ntmps156;go_wp2_with fail;refine iG.out.mono ?_;rintro e w1 ⟨rfl,hb⟩;rw[HV.out];have hst:=nN.call hb;have hb1:=hb0.trans (hb.mono hb0.size);obtain⟨ht0,ht1,ht2,hs0,hs1,hs2,hf0,hf1⟩:=hst.facts;have hw1:=hst.lt;have hw0:w.heap.size<w1.heap.size:=by omega
 clear hb nN hb0;have HX:=zH hx;clear hx;go_wp2_with fail;refine(iR count pk _ HI.out.1 HI.out.2).mono ?_;rintro e w2 ⟨rfl,rfl⟩;rw[HP.out];by_cases h99:l.length=99
 ·have hd:((l.length:Int) == 99)=true:=by rw[YG];omega
  clear h99;go_wp2_with fail;refine zr (v:=.tuple #[aN 0 false (.slice none 0 0),.int .i64 7]) (by simp[results,results156,go_sem,hs0,hs1,hs2]) rfl ⟨_,rfl,sO.nil _ _,?_⟩;exact((hb1.setCell (by simp) _).setCell (by simp) _).setCell (by simp) _
 ·have hd:((l.length:Int) == 99)=false:=by rw[Yc];omega
  have hd2:(cl == 16)=true:=by rw[YG];have:=HX.out;omega
  clear h99;go_wp2_with fail;refine zr (v:=.tuple #[aN 0 false (.slice none 0 0),.int .i64 7]) (by simp[results,results156,go_sem,hs0,hs1,hs2]) rfl ⟨_,rfl,sO.nil _ _,?_⟩;exact((hb1.setCell (by simp) _).setCell (by simp) _).setCell (by simp) _
theorem QL(cap cl:Int)(sv:Value)(l:List T.ax)(count pk:Int)(w:World)(hr:bQ w sv l)(hf:KA l)(hV:T.az cap cl false l=true)(hp:T.um count pk)(hi:-9223372036854775808<=count/\count<=9223372036854775807)(hn:l.length≠99)(hn2:cl≠16)(hx:cap-T.AY cl l<count):Calls prog 156 #[.int .i64 cap,aN cl false sv,.int .i64 count,.int .i64 pk] w (OpF (je.bad 12) w):=by
 have HI:=zH hi;clear hi;have HP:Hid (decide (1<=count/\0<=pk/\pk<=1024/\(0<pk->count.tmod pk=0))=true):=zH (zt hp);obtain⟨pk1,pk2,pk3,pk4⟩:=hp;have hvr:=T.bz.1 hV;obtain⟨c1,c2,c3,c4,c5,_⟩:=hvr;obtain⟨at1,at2⟩:=Y9 (T.bz.1 hV);clear pk4;have hq1:((l.length:Int) == 99)=false:=by rw[Yc];omega
 have hq2:(cl == 16)=false:=by rw[Yc];omega
 have HFw:=zH hf;obtain⟨a,c,rfl,hac⟩:=dU.form hr;have hb0:=iI w cl false (.slice a l.length c);have hcon:=gY cap cl false _ l _ (hr.keep hb0) hf;have iG:=zH hcon;clear hcon;have nN:=St.new w cl false (.slice a l.length c);have HV:=zH hV;clear hV;go_enter func156,ntmps156;go_wp2_with fail;refine iG.out.mono ?_;rintro e w1 ⟨rfl,hb⟩;rw[HV.out];have hst:=nN.call hb;have hb1:=hb0.trans (hb.mono hb0.size);obtain⟨ht0,ht1,ht2,hs0,hs1,hs2,hf0,hf1⟩:=hst.facts;have hw1:=hst.lt;have hw0:w.heap.size<w1.heap.size:=by omega
 clear hb nN hb0;have hrx:=bQ.keep hr hb1;go_wp2_with fail;refine(iR count pk _ HI.out.1 HI.out.2).mono ?_;rintro e w2 ⟨rfl,rfl⟩;rw[HP.out];go_wp2_with fail;refine(AZ _ l.length l (cl+1) _ hrx (by omega) HFw.out.2).mono ?_;rintro e w2 ⟨rfl,hb2⟩;rw[aeS];have hb2':=hb1.trans (hb2.mono hb1.size);have hst2:=hst.call hb2;clear ht0 ht1 ht2 hs0 hs1 hs2 hf0 hf1;obtain⟨ht0,ht1,ht2,hs0,hs1,hs2,hf0,hf1⟩:=hst2.facts;have amh:=bQ.keep hrx hb2;have hw2:=hst2.lt;have hw3:w.heap.size<w2.heap.size:=by omega
 obtain⟨at_,hat⟩:∃at_,at_=T.AY cl l:=⟨_,rfl⟩;rw[<-hat]at at1 at2 hx ⊢;have HAT:=zH hat;clear hb2 hst hb1 hrx hat;have hd:decide (cap-at_<count)=true:=zt hx;go_wp2_with fail;refine zr (v:=.tuple #[aN 0 false (.slice none 0 0),.int .i64 12]) (by simp[results,results156,go_sem,hs0,hs1,hs2]) rfl ⟨_,rfl,sO.nil _ _,?_⟩;exact((hb2'.setCell (by simp) _).setCell (by simp) _).setCell (by simp) _
theorem QM(cap cl:Int)(sv:Value)(l:List T.ax)(count pk:Int)(w:World)(hr:bQ w sv l)(hf:KA l)(hV:T.az cap cl false l=true)(hp:T.um count pk)(hi:-9223372036854775808<=count/\count<=9223372036854775807)(hn:l.length≠99)(hn2:cl≠16)(hx:¬ cap-T.AY cl l<count):Calls prog 156 #[.int .i64 cap,aN cl false sv,.int .i64 count,.int .i64 pk] w (OpF ⟨cl,false,l++[T.Qq cl l count pk],0⟩ w):=by
 have HI:=zH hi;clear hi;have HP:Hid (decide (1<=count/\0<=pk/\pk<=1024/\(0<pk->count.tmod pk=0))=true):=zH (zt hp);obtain⟨pk1,pk2,pk3,pk4⟩:=hp;have hvr:=T.bz.1 hV;obtain⟨c1,c2,c3,c4,c5,_⟩:=hvr;obtain⟨at1,at2⟩:=Y9 (T.bz.1 hV);clear pk4;have hq1:((l.length:Int) == 99)=false:=by rw[Yc];omega
 have hq2:(cl == 16)=false:=by rw[Yc];omega
 have HFw:=zH hf;obtain⟨a,c,rfl,hac⟩:=dU.form hr;have hb0:=iI w cl false (.slice a l.length c);have hcon:=gY cap cl false _ l _ (hr.keep hb0) hf;have iG:=zH hcon;clear hcon;have nN:=St.new w cl false (.slice a l.length c);have HV:=zH hV;clear hV;go_enter func156,ntmps156;go_wp2_with fail;refine iG.out.mono ?_;rintro e w1 ⟨rfl,hb⟩;rw[HV.out];have hst:=nN.call hb;have hb1:=hb0.trans (hb.mono hb0.size);obtain⟨ht0,ht1,ht2,hs0,hs1,hs2,hf0,hf1⟩:=hst.facts;have hw1:=hst.lt;have hw0:w.heap.size<w1.heap.size:=by omega
 clear hb nN hb0;have hrx:=bQ.keep hr hb1;go_wp2_with fail;refine(iR count pk _ HI.out.1 HI.out.2).mono ?_;rintro e w2 ⟨rfl,rfl⟩;rw[HP.out];go_wp2_with fail;refine(AZ _ l.length l (cl+1) _ hrx (by omega) HFw.out.2).mono ?_;rintro e w2 ⟨rfl,hb2⟩;rw[aeS];have hb2':=hb1.trans (hb2.mono hb1.size);have hst2:=hst.call hb2;clear ht0 ht1 ht2 hs0 hs1 hs2 hf0 hf1;obtain⟨ht0,ht1,ht2,hs0,hs1,hs2,hf0,hf1⟩:=hst2.facts;have amh:=bQ.keep hrx hb2;have hw2:=hst2.lt;have hw3:w.heap.size<w2.heap.size:=by omega
 obtain⟨at_,hat⟩:∃at_,at_=T.AY cl l:=⟨_,rfl⟩;rw[<-hat]at at1 at2 hx ⊢;have HAT:=zH hat;clear hb2 hst hb1 hrx hat;have hd:decide (cap-at_<count)=false:=zf (by omega);go_wp2_with fail;refine(clone_any cl false _ l _ amh (by omega)).mono ?_;rintro e w3 ⟨v3,rfl,hown3,hb3⟩;have hst3:=hst2.call hb3;have agy:=hb2'.trans (hb3.mono hb2'.size);obtain⟨a3,c3',rfl,_⟩:=dU.form (bQ.bg hown3);clear ht0 ht1 ht2 hs0 hs1 hs2 hf0 hf1;obtain⟨ht0,ht1,ht2,hs0,hs1,hs2,hf0,hf1⟩:=hst3.facts;have hw4:=hst3.lt;have hw5:w.heap.size<w3.heap.size:=by omega
 have hl1:0<=cl+1:=by omega
 obtain⟨y,hy⟩:∃y:T.ax,y=⟨(l.length:Int)+1,cl+1,at_,count,at_,0,pk⟩:=⟨_,rfl⟩;have HY:Hid (y=T.Qq cl l count pk):=zH (by rw[hy,HAT.out];rfl);have hyf:y.num=(l.length:Int)+1/\y.dm=cl+1/\y.st=at_/\y.len=count/\y.nx=at_/\y.dZ=0/\y.pk=pk:=by rw[hy];exact⟨rfl,rfl,rfl,rfl,rfl,rfl,rfl⟩
 obtain⟨amr,ams,amu,amv,amw,amx,amy⟩:=hyf;clear hy;have agB:=(hst3.put cl false (.slice a3 l.length c3')).alloc (oI y);have hownA:=ad6 (dL (dL (dL hown3 (p:=⟨w.heap.size,0,none⟩) (by simp only;omega) (.int .i64 cl)) (p:=⟨w.heap.size,1,none⟩) (by simp only;omega) (.bool false)) (p:=⟨w.heap.size,2,none⟩) (by simp only;omega) (.slice a3 l.length c3'))
  ((zB _ _).alloc (zl _) (oI y)).block
 have hrA:=bQ.one (((w3.setCell ⟨w.heap.size,0,none⟩ (.int .i64 cl)).setCell ⟨w.heap.size,1,none⟩ (.bool false)).setCell ⟨w.heap.size,2,none⟩ (.slice a3 l.length c3')) y;have hbA:=(((agy.setCell (p:=⟨w.heap.size,0,none⟩) (by simp) (.int .i64 cl)).setCell (p:=⟨w.heap.size,1,none⟩) (by simp) (.bool false)).setCell (p:=⟨w.heap.size,2,none⟩) (by simp) (.slice a3 l.length c3')).alloc (by simp;omega) (oI y);have hszA:(((w3.setCell ⟨w.heap.size,0,none⟩ (.int .i64 cl)).setCell ⟨w.heap.size,1,none⟩ (.bool false)).setCell ⟨w.heap.size,2,none⟩ (.slice a3 l.length c3')).heap.size=w3.heap.size:=by simp
 have apq:w2.heap.size<=w3.heap.size:=hb3.size;rw[hszA]at hrA;unfold oI at agB hownA hrA hbA;rw[amr,ams,amu,amv,amw,amx,amy]at agB hownA hrA hbA;have HOWN:=zH hownA;have HST:=zH agB;have HBA:=zH hbA;have HRA:=zH hrA;clear hszA hownA agB hbA hrA amr ams amu amv amw amx amy hst3 hown3 hb3;go_wp2_with (at_builtin;refine Cb rfl _ _ rfl HOWN.out rfl HRA.out rfl (by simp;omega) (by simp;omega) ?_;intro v4 w4 hown4 hg4;obtain⟨a4,c4,rfl,_⟩:=dU.form (bQ.bg (l:=l++[y]) (by rw[Yb];exact hown4));have amj:=HST.out.own HOWN.out hg4 (by omega) (by simp;omega);have hb4:=HBA.out.grown hg4 (by simp;omega) (λk hk=>by have:=rE HOWN.out k hk;omega);clear ht0 ht1 ht2 hs0 hs1 hs2 hf0 hf1 hg4;obtain⟨ht0,ht1,ht2,hs0,hs1,hs2,hf0,hf1⟩:=amj.facts;have hw6:=amj.lt);refine zr (v:=.tuple #[aN cl false (.slice a4 (l.length+1) c4),.int .i64 0]) (by simp[results,results156,go_sem,hs0,hs1,hs2]) rfl ⟨_,rfl,?_,?_⟩
 ·rw[<-HY.out];have h4:w4.ownsRow w2.heap.size 94 7 (.slice a4 (l.length+1) c4) (l++[y]).length (fl (l++[y])):=by simpa using hown4
  exact sO.bg (dL (dL (dL (dL h4 (by simp only;omega) _) (by simp only;omega) _) (by simp only;omega) _) (by simp only;omega) _) (by first|omega|(have:=hb2'.size;omega)|(have:=hb1.size;omega)|(have:=agy.size;omega))
 ·exact(((hb4.setCell (by simp) _).setCell (by simp) _).setCell (by simp) _).setCell (by simp) _
theorem UH(cap cl:Int)(fin:Bool)(sv:Value)(l:List T.ax)(aj count:Int)(w:World)(hr:bQ w sv l)(hf:KA l)(hV:T.az cap cl fin l=false):Calls prog 153 #[.int .i64 cap,aN cl fin sv,.int .i64 aj,.int .i64 count] w (OpF (je.bad 1) w):=by
 obtain⟨a,c,rfl,hac⟩:=dU.form hr;have hb0:=iI w cl fin (.slice a l.length c);have hcon:=gY cap cl fin _ l _ (hr.keep hb0) hf;have iG:=zH hcon;clear hcon;have nN:=St.new w cl fin (.slice a l.length c);have HV:=zH hV;clear hV;go_enter func153,ntmps153;go_wp2_with fail;refine iG.out.mono ?_;rintro e w1 ⟨rfl,hb⟩;rw[HV.out];have hst:=nN.call hb;have hb1:=hb0.trans (hb.mono hb0.size);obtain⟨ht0,ht1,ht2,hs0,hs1,hs2,hf0,hf1⟩:=hst.facts;have hw1:=hst.lt;have hw0:w.heap.size<w1.heap.size:=by omega
 clear hb nN hb0;go_wp2_with fail;refine zr (v:=.tuple #[aN 0 false (.slice none 0 0),.int .i64 1]) (by simp[results,results153,go_sem,hs0,hs1,hs2]) rfl ⟨_,rfl,sO.nil _ _,?_⟩;exact((hb1.setCell (by simp) _).setCell (by simp) _).setCell (by simp) _
theorem UI(cap cl:Int)(fin:Bool)(sv:Value)(l:List T.ax)(aj count:Int)(w:World)(hr:bQ w sv l)(hf:KA l)(hV:T.az cap cl fin l=true)(hi:-9223372036854775808<=count/\count<=9223372036854775807)(hi2:-9223372036854775808<=aj/\aj<=9223372036854775807):Calls prog 153 #[.int .i64 cap,aN cl fin sv,.int .i64 aj,.int .i64 count] w (OpF (aW cap cl fin l aj count) w):=by
 have HN:=zH (λh=>xK (count:=count) (aj:=aj) hV h);have HS:=zH (λi h=>xM (count:=count) (aj:=aj) (i:=i) hV h);have HVR:=zH (T.bz.1 hV).2.2.2.2.2.1;have h99:=(T.bz.1 hV).2.2.1;have hcap:=(T.bz.1 hV).2.1;have HFw:=zH hf;have HI:=zH hi;clear hi;have hib:=HI.out.2;have HI2:=zH hi2;clear hi2;obtain⟨a,c,rfl,hac⟩:=dU.form hr;have hb0:=iI w cl fin (.slice a l.length c);have hcon:=gY cap cl fin _ l _ (hr.keep hb0) hf;have iG:=zH hcon;clear hcon;have nN:=St.new w cl fin (.slice a l.length c);have HV:=zH hV;clear hV;go_enter func153,ntmps153;go_wp2_with fail;refine iG.out.mono ?_;rintro e w1 ⟨rfl,hb⟩;rw[HV.out];have hst:=nN.call hb;have hb1:=hb0.trans (hb.mono hb0.size);obtain⟨ht0,ht1,ht2,hs0,hs1,hs2,hf0,hf1⟩:=hst.facts;have hw1:=hst.lt;have hw0:w.heap.size<w1.heap.size:=by omega
 clear hb nN hb0;have hrx:=bQ.keep hr hb1;have HRX:=zH hrx;obtain⟨a',c',b,off,hv',ao3,hcell⟩:=hrx;obtain⟨rfl,rfl⟩:a=a'/\c=c':=by injection hv' with h1 h2 h3;exact⟨h1,h3⟩
 have HC:=zH hcell;clear hcell hv';have hln:-1<=(l.length:Int)-1:=by omega
 go_wp2_with fail
 go_loop [10] (λvi=>∃(i:Int)(k:Nat),-1<=i/\i<l.length/\Hid (i=(k:Int)-1)/\vi=.int .i64 i/\Hid (lF l aj l.length=lF l aj k)) (λvi=>(RowKit.intOf vi+1).toNat)
 case atStart=>exact⟨_,l.length,by omega,by omega,zH rfl,rfl,zH rfl⟩
 case round=>
  obtain⟨i,k,hi1,hi2,HK,rfl,HFO⟩:=hrel;by_cases hneg:i<0
  ·have hd:decide (0<=i)=false:=zf (by omega);have hd2:decide (i<0)=true:=zt hneg;have h0:aW cap cl fin l aj count=je.bad 2:=HN.out (by
    have hk0:k=0:=by have:=HK.out;omega
    rw[HFO.out,hk0];rfl)
   have H0:=zH h0;clear h0 hneg;go_wp2_with fail;rw[H0.out];refine zr (v:=.tuple #[aN 0 false (.slice none 0 0),.int .i64 2]) (by simp[results,results153,go_sem,hs0,hs1,hs2]) rfl ⟨_,rfl,sO.nil _ _,?_⟩;exact((hb1.setCell (by simp) _).setCell (by simp) _).setCell (by simp) _
  ·obtain⟨j,rfl⟩:∃j:Nat,i=j:=⟨i.toNat,by omega⟩;have hjl:j<l.length:=by omega
   have hd:decide (0<=(j:Int))=true:=zt (by omega);have hd2:decide ((j:Int)<0)=false:=zf (by omega);have hkj:k=j+1:=by have:=HK.out;omega
   have HKJ:=zH hkj;clear hkj;obtain⟨ha,hrange⟩:=HC.out j hjl;have hix:=λw'=>aB underlying35 sizeTrack (cap:=c) ha hjl _ rfl w'
   obtain⟨sm1,sm2,Nz,NC,sm5,sm6,sm7⟩:=HFw.out.2 j hjl;have hgo:=HVR.out j hjl;unfold T.okR at hgo;obtain⟨x,hx⟩:∃x,x=T.tr l j:=⟨_,rfl⟩;rw[<-hx]at hrange sm1 sm2 Nz NC sm5 sm6 sm7 hgo;have HX:=zH hx;clear hx;obtain⟨g1,g2,g3,g4,g5,g6,g7,g8,g9,g10,g11,g12,g13,g14⟩:=hgo;clear g1 g2 g3 g4 g5 g12 g13 g14;obtain⟨hc0,hc1,hc2,hc3,hc4,hc5,hc6⟩:=Oh hrange;have hbl:=zc w1 _ hc0;simp only at hbl;have Ha:=zH ha;clear ha hrange;unfold sm at Nz NC sm5;by_cases hs2:x.dZ=2
   ·have hd3:(x.dZ == 2)=true:=by rw[YG];exact hs2
    have HF2:Hid (lF l aj l.length=lF l aj j):=zH (by rw[HFO.out,HKJ.out,lF,zi (by rw[<-HX.out];exact λh=>h.1 hs2)]);clear hs2;go_wp2_with fail;go_round;case rel=>exact⟨_,j,by omega,by omega,zH rfl,rfl,HF2⟩
    case measure=>simp[RowKit.intOf] <;> omega
   by_cases hnx:x.nx=aj
   ·have hd3:(x.dZ == 2)=false:=by rw[Yc];exact hs2
    have hd4:(x.nx != aj)=false:=by rw[Xe];exact hnx
    have hR:=HS.out j (by rw[HFO.out,HKJ.out,lF,zj (by rw[<-HX.out];exact⟨hs2,hnx⟩)]);rw[<-HX.out]at hR;clear hs2;by_cases hpk:T.um count x.pk
    ·rw[zi (XE hpk)]at hR;have HP:Hid (decide (1<=count/\0<=x.pk/\x.pk<=1024/\(0<x.pk->count.tmod x.pk=0))=true):=zH (zt hpk);have hc1:1<=count:=hpk.1;clear hpk;have hlb:aj=x.nx:=hnx.symm;subst hlb;clear hnx;by_cases hfull:x.st+x.len-x.nx<count
     ·rw[zj hfull]at hR;have HR:=zH hR;clear hR;have hd5:decide (x.st+x.len-x.nx<count)=true:=zt hfull;clear hfull;go_wp2_with fail;refine(iR count x.pk _ HI.out.1 HI.out.2).mono ?_;rintro e w2 ⟨rfl,rfl⟩;rw[HP.out];go_wp2_with fail;refine(oN x _ Nz NC).mono ?_;rintro e w2 ⟨rfl,rfl⟩;go_wp2_with fail;rw[HR.out];refine zr (v:=.tuple #[aN 0 false (.slice none 0 0),.int .i64 12]) (by simp[results,results153,go_sem,hs0,hs1,hs2,hw1]) rfl ⟨_,rfl,sO.nil _ _,?_⟩;exact(((hb1.setCell (by simp) _).setCell (by simp) _).setCell (by simp) _).alloc (by simp;omega) _
     ·rw[zi hfull]at hR;have HR:=zH hR;clear hR;have hd5:decide (x.st+x.len-x.nx<count)=false:=zf hfull;have hc2:count<=x.st+x.len-x.nx:=by omega
      clear hfull;go_wp2_with fail;refine(iR count x.pk _ HI.out.1 HI.out.2).mono ?_;rintro e w2 ⟨rfl,rfl⟩;rw[HP.out];go_wp2_with fail;refine(oN x _ Nz NC).mono ?_;rintro e w2 ⟨rfl,rfl⟩;go_wp2_with fail;have hbx:=hb1.alloc (by omega) (oI x);have aoA:=hst.alloc (oI x);refine(clone_any cl fin _ l _ (HRX.out.keep ((zB _ _).alloc (zl _) (oI x))) (by omega)).mono ?_;rintro e w3 ⟨v3,rfl,hown3,hb3⟩;have hst3:=aoA.call hb3;have agy:=hbx.trans (hb3.mono hbx.size);obtain⟨gg,c3,rfl,hg1,hg2⟩:=QA hown3 (by omega);clear ht0 ht1 ht2 hs0 hs1 hs2 hf0 hf1;obtain⟨ht0,ht1,ht2,hs0,hs1,hs2,hf0,hf1⟩:=hst3.facts;have hw4:=hst3.lt;have hw5:w.heap.size<w3.heap.size:=by omega
      have hsx:w1.heap.size+1<=gg:=by simpa using hg1
      have hfg:∀k,w3.frozen? ⟨gg,k,none⟩=false:=λk=>hown3.frozenAt k
      have hrow:=Jy hown3 j hjl;rw[<-HX.out]at hrow;obtain⟨hq0,hq1,hq2,hq3,hq4,hq5,hq6⟩:=Oh hrow;clear hrow;have hix3:∀W,(Instr.indexAt 35 (.slice (some ⟨gg,0,none⟩) l.length c3) (.int .i64 (j:Int))).run prog W=.ok (.pointer (some ⟨gg,j*7,none⟩)) W:=λW=>
       (aB (P:=prog) underlying35 sizeTrack (cap:=c3) (rfl:some (⟨gg,0,none⟩:Addr)=_) hjl _ rfl W).trans (by rw[Yf])
      go_wp2_with fail;rw[HR.out];refine zr (v:=.tuple #[aN cl fin (.slice (some ⟨gg,0,none⟩) l.length c3),.int .i64 0]) (by simp[results,results153,go_sem,hs0,hs1,hs2]) rfl ⟨_,rfl,?_,?_⟩
      ·have hlb:∀k:Nat,k<=w.heap.size+1->k<(w1.alloc (oI x)).heap.size:=λk hk=>by simp;omega
       have e0:=dL (dL (dL hown3 (p:=⟨w.heap.size,0,none⟩) (hlb w.heap.size (by omega)) (.int .i64 cl)) (p:=⟨w.heap.size,1,none⟩) (hlb w.heap.size (by omega)) (.bool fin)) (p:=⟨w.heap.size,2,none⟩) (hlb w.heap.size (by omega)) (.slice (some ⟨gg,0,none⟩) l.length c3);have e1:=MP e0 j 4 hjl (by omega) (.int .i64 (x.nx+count)) {x with nx:=x.nx+count} (by rw[<-HX.out];rfl);have e2:=MP e1 j 5 (by simpa using hjl) (by omega) (.int .i64 1) (T.grown x count) (by rw[T.gy _ _ _ hjl];rfl);rw[List.set_set]at e2;refine sO.bg (base:=(w1.alloc (oI x)).heap.size) ?_ (by simp;omega);rw[Yu];exact dL (dL (dL e2 (hlb (w.heap.size+1) (zl _)) _) (hlb (w.heap.size+1) (zl _)) _) (hlb (w.heap.size+1) (zl _)) _
      ·exact(((((((agy.setCell (by simp) _).setCell (by simp) _).setCell (by simp) _).setCell (by simp only;omega) _).setCell (by simp only;omega) _).setCell (by simp) _).setCell (by simp) _).setCell (by simp) _
    ·rw[zj hpk]at hR;have HR:=zH hR;clear hR;have HP:Hid (decide (1<=count/\0<=x.pk/\x.pk<=1024/\(0<x.pk->count.tmod x.pk=0))=false):=zH (zf hpk);clear hpk hnx;go_wp2_with fail;refine(iR count x.pk _ HI.out.1 HI.out.2).mono ?_;rintro e w2 ⟨rfl,rfl⟩;rw[HP.out];go_wp2_with fail;rw[HR.out];refine zr (v:=.tuple #[aN 0 false (.slice none 0 0),.int .i64 1]) (by simp[results,results153,go_sem,hs0,hs1,hs2]) rfl ⟨_,rfl,sO.nil _ _,?_⟩;exact((hb1.setCell (by simp) _).setCell (by simp) _).setCell (by simp) _
   ·have hd3:(x.dZ == 2)=false:=by rw[Yc];exact hs2
    have hd4:(x.nx != aj)=true:=by rw[XV];exact hnx
    have HF2:Hid (lF l aj l.length=lF l aj j):=zH (by rw[HFO.out,HKJ.out,lF,zi (by rw[<-HX.out];exact λh=>hnx h.2)]);clear hs2 hnx;go_wp2_with fail;go_round;case rel=>exact⟨_,j,by omega,by omega,zH rfl,rfl,HF2⟩
    case measure=>simp[RowKit.intOf] <;> omega
def doR(cap cl:Int)(fin:Bool)(l:List T.ax)(kind a b:Int)(fz:Bool):je:=
 if kind=0 then bZ cap cl fin l a b else if kind=1 then aW cap cl fin l a b else if kind=2 then iJ cap cl fin l a else jy cap cl fin l fz
theorem bQ.far{w:World}{v:Value}{l:List T.ax}(h:bQ w v l){g:Nat}{cs:Array Value}{t:TypeId}{fr:Nat×Nat}(hg:w.heap[g]? = some (.cells cs t fr))(hc:cs.size<7)(k:Nat)(u:Value):bQ (w.setCell ⟨g,k,none⟩ u) v l:=by
 obtain⟨a,c,b,off,rfl,hac,hcell⟩:=h;refine⟨a,c,b,off,rfl,hac,λi hi=>⟨(hcell i hi).1,λj x hx=>?_⟩⟩;have h6:=(hcell i hi).2 6 _ rfl;have hne:g≠b:=by rintro rfl;rw[Xd w g _ cs t fr hg,Array.getElem?_eq_none (by omega)]at h6;cases h6
 rw[World.cell?_setCell_other w _ _ _ (λe=>hne (Yp Addr.block e))];exact(hcell i hi).2 j x hx
end
end Go.Proofs.YtfnehkmhcmkhjaaGreat
