/- Parts:XTkI XTkE -/
import Derived.Test.YtfnehkmhcmkhjaaGreatDvAl
import Derived.Test.YtfnehkmhcmkhjaaGreatDv12
import Derived.Test.YtfnehkmhcmkhjaaGreatDv18
import Derived.Test.YtfnehkmhcmkhjaaGreatDv15
set_option maxRecDepth 100000
set_option maxHeartbeats 8000000
set_option linter.unusedVariables false
namespace Go.Proofs.YtfnehkmhcmkhjaaGreat
open Tryz
section
open Go.RowKit
def jv(cap cl:Int)(fin:Bool)(sv:Value)(w:World):World:=
 ((w.alloc (.cells #[.int .i64 cap] 3)).alloc (.cells #[.int .i64 cl,.bool fin,sv] 37)).alloc
   (.cells #[.func (.func 307) #[] #[],.func (.func 308) #[] #[],.func (.func 309) #[] #[.pointer (some ⟨w.heap.size+1,0,none⟩)],
    .func (.func 310) #[] #[.pointer (some ⟨w.heap.size+1,0,none⟩)],.func (.func 311) #[] #[],.func (.func 312) #[] #[.pointer (some ⟨w.heap.size,0,none⟩)],
    .func (.func 313) #[] #[],.func (.func 314) #[] #[]] 336)
theorem PX(cap cl:Int)(fin:Bool)(sv:Value)(w:World):
 Calls prog 245 #[.int .i64 cap,.agg #[.int .i64 cl,.bool fin,sv]] w fun e w'=>e=.returned (.slice (some ⟨w.heap.size+1+1,0,none⟩) 8 8)/\w'=jv cap cl fin sv w:=by
 go_enter func245,ntmps245;go_wp2;go_ret;exact⟨rfl,rfl⟩
theorem wQ(cap cl:Int)(fin:Bool)(sv:Value)(w:World):(jv cap cl fin sv w).heap.size=w.heap.size+3:=by simp[jv]
theorem uq{B:Nat}(cap cl:Int)(fin:Bool)(sv:Value)(w:World)(hB:B<=w.heap.size):Below B w (jv cap cl fin sv w):=
 (((zB _ _).alloc hB _).alloc (by simp; omega) _).alloc (by simp; omega) _
theorem UL(cap cl:Int)(fin:Bool)(sv:Value)(w:World):(jv cap cl fin sv w).cell? ⟨w.heap.size,0,none⟩=some (.int .i64 cap):=by simp[jv,go_sem]
theorem UM(cap cl:Int)(fin:Bool)(sv:Value)(w:World):QU (jv cap cl fin sv w) (w.heap.size+1) cl fin sv:=by unfold QU; refine⟨?_,?_,?_⟩ <;> simp[jv,go_sem]
theorem UN(cap cl:Int)(fin:Bool)(sv:Value)(w:World)(j:Nat):(jv cap cl fin sv w).cell? ⟨w.heap.size+1+1,j,none⟩ =
 (#[Value.func (.func 307) #[] #[],.func (.func 308) #[] #[],.func (.func 309) #[] #[.pointer (some ⟨w.heap.size+1,0,none⟩)],
   .func (.func 310) #[] #[.pointer (some ⟨w.heap.size+1,0,none⟩)],.func (.func 311) #[] #[],.func (.func 312) #[] #[.pointer (some ⟨w.heap.size,0,none⟩)],
   .func (.func 313) #[] #[],.func (.func 314) #[] #[]])[j]?:=by simp[jv,go_sem]
theorem sizeRule:(prog.info? 336).map (·.size)=some 1:=by kernel_rfl
def fC(cap cl:Int)(fin:Bool)(l:List T.az)(i r:Nat):Bool:=
 match r with
 | 0=>decide ((T.tr l i).num=i+1)
 | 1=>R2 i (T.tr l i).bP (T.tr l (i - 1)).bP
 | 2=>decide ((T.tr l i).bP<=cl+1/\(T.tr l i).bP<=16/\(cl<(T.tr l i).bP\/(T.tr l i).cZ=2))
 | 3=>decide (fin=true->(T.tr l i).bP<=cl)
 | 4=>decide ((T.tr l i).st=if i=0 then 0 else if (T.tr l (i - 1)).bP<(T.tr l i).bP then(T.tr l (i - 1)).st+(T.tr l (i - 1)).len+16 else(T.tr l (i - 1)).st+(T.tr l (i - 1)).len)
 | 5=>decide (1<=(T.tr l i).len/\(T.tr l i).len<=cap/\(T.tr l i).st<=cap - (T.tr l i).len)
 | 6=>decide ((T.tr l i).pk=0\/1<=(T.tr l i).pk/\(T.tr l i).pk<=1024/\(T.tr l i).len.tmod (T.tr l i).pk=0/\((T.tr l i).nx - (T.tr l i).st).tmod (T.tr l i).pk=0)
 | _=>R8 (T.tr l i)
theorem jd(cap cl:Int)(fin:Bool)(l:List T.az)(i:Nat):(∀r,r<8->fC cap cl fin l i r=true)↔T.okI cap cl fin l i:=by
 constructor
 ·intro h;have h0:=h 0 (by omega); have h1:=h 1 (by omega); have h2:=h 2 (by omega); have h3:=h 3 (by omega);have h4:=h 4 (by omega); have h5:=h 5 (by omega); have h6:=h 6 (by omega); have h7:=h 7 (by omega);simp only[fC,R2,R8,decide_eq_true_eq]at h0 h1 h2 h3 h4 h5 h6 h7;refine⟨h0,h1.1,fun h=>?_,h2.1,h2.2.1,h2.2.2,h3,?_,h5.1,h5.2.1,h5.2.2,h6,h7.1,h7.2⟩
  ·have:=h1.2 h; unfold T.sB; rw[zi (by omega)]; exact this
  ·rw[h4];by_cases e:i=0
   ·rw[zj e,zj e]
   ·rw[zi e,zi e]; unfold T.sB T.eB; rw[zi e,zi e]
 ·rintro⟨g1,g2,g3,g4,g5,g6,g7,g8,g9,g10,g11,g12,g13,g14⟩ r hr;have hs:0<i->T.sB l i=(T.tr l (i - 1)).bP:=fun h=>by unfold T.sB; rw[zi (by omega)]
  have he:0<i->T.eB l i=(T.tr l (i - 1)).st+(T.tr l (i - 1)).len:=fun h=>by unfold T.eB; rw[zi (by omega)]
  match r,hr with
  | 0,_=>exact zt g1
  | 1,_=>exact zt ⟨g2,fun h=>by have:=g3 h; rwa[hs h]at this⟩
  | 2,_=>exact zt ⟨g4,g5,g6⟩
  | 3,_=>exact zt g7
  | 4,_=>
    refine zt ?_;rw[g8];by_cases e:i=0
    ·rw[zj e,zj e]
    ·rw[zi e,zi e,hs (by omega),he (by omega)]
  | 5,_=>exact zt ⟨g9,g10,g11⟩
  | 6,_=>exact zt g12
  | 7,_=>exact zt ⟨g13,g14⟩
theorem Cf(cap cl:Int)(fin:Bool)(sv:Value)(l:List T.az)(w:World)(hr:aW w sv l)(hb:¬ (1<=cap/\cap<=449849/\l.length<=99/\0<=cl/\cl<=16/\¬ (fin=true/\cl=0)))(hlen:l.length<=281474976710656):
 Calls prog 164 #[.int .i64 cap,.agg #[.int .i64 cl,.bool fin,sv]] w (qj cap cl fin l w):=by
 have hF:T.aF cap cl fin l=false:=by rw[T.bJ,<-T.fP];exact fun h=>hb ⟨h.1,h.2.1,h.2.2.1,h.2.2.2.1,h.2.2.2.2.1,h.2.2.2.2.2.1⟩
 have HF:=zH hF;clear hF;obtain⟨a,c,rfl,hac⟩:=hr.form;cases fin;all_goals
  go_enter func164,ntmps164;simp only[Bool.false_eq_true,false_and,not_false_eq_true,and_true,true_and]at hb;go_wp2;all_goals first
   | (go_ret
      exact⟨fQ HF.out.symm,(zB _ _).alloc (zl _) _⟩)
   | (exfalso
      try simp only[beq_eq_false_iff_ne,ne_eq]at *
      omega)
theorem aaI{P:Program}{f:FuncId}{args:Array Value}{w wG:World}{v:Ending}(h:Calls P f args w fun e w'=>e=v/\w'=wG):Calls P f args w fun e w'=>e=v/\wG=w':=
 h.mono fun _ _ ⟨a,b⟩=>⟨a,b.symm⟩
def Ctx(cap cl:Int)(fin:Bool)(sv:Value)(l:List T.az)(i:Nat)(v':Value)(g:Nat)(W:World):Prop:=
 bK W 7 v' i (fun k=>jy (T.tr l k))/\QU W (g+1) cl fin sv/\W.cell? ⟨g,0,none⟩=some (.int .i64 cap)/\g+1<W.heap.size
section
variable {cap cl:Int} {fin:Bool} {sv:Value} {l:List T.az} {i:Nat} {v':Value} {g:Nat}
theorem Ctx.keep{W W':World}(h:Ctx cap cl fin sv l i v' g W)(hb:Below W.heap.size W W'):Ctx cap cl fin sv l i v' g W':=by
 obtain⟨h1,⟨h2,h3,h4⟩,h5,h6⟩:=h;refine⟨h1.keep hb,⟨?_,?_,?_⟩,?_,by have:=hb.size; omega⟩
 ·rw[hb.cell (p:=⟨g+1,0,none⟩) h6]; exact h2
 ·rw[hb.cell (p:=⟨g+1,1,none⟩) h6]; exact h3
 ·rw[hb.cell (p:=⟨g+1,2,none⟩) h6]; exact h4
 ·rw[hb.cell (p:=⟨g,0,none⟩) (by simp only; omega)]; exact h5
theorem acJ(hh:i<=110/\(∀m,m<i->uB (T.tr l m))/\uB (T.tr l i)/\1<=cap/\cap<=449849/\0<=cl/\cl<=16)(W:World)(h:Ctx cap cl fin sv l i v' g W):Calls prog 307 #[v',iH (T.tr l i)] W (RB (fC cap cl fin l i 0) W):=by obtain⟨ru,DJ,hsx,h1c,Zd,h0c,h5⟩:=hh;obtain⟨h1,h2,h3,h4⟩:=h;exact PN v' i _ _ W h1 ru
theorem acK(hh:i<=110/\(∀m,m<i->uB (T.tr l m))/\uB (T.tr l i)/\1<=cap/\cap<=449849/\0<=cl/\cl<=16)(W:World)(h:Ctx cap cl fin sv l i v' g W):Calls prog 308 #[v',iH (T.tr l i)] W (RB (fC cap cl fin l i 1) W):=by obtain⟨ru,DJ,hsx,h1c,Zd,h0c,h5⟩:=hh;obtain⟨h1,h2,h3,h4⟩:=h;exact PO v' i l _ W h1 ru DJ hsx.2.1
theorem call2(hh:i<=110/\(∀m,m<i->uB (T.tr l m))/\uB (T.tr l i)/\1<=cap/\cap<=449849/\0<=cl/\cl<=16)(W:World)(h:Ctx cap cl fin sv l i v' g W):Calls prog 309 #[v',iH (T.tr l i),.pointer (some ⟨g+1,0,none⟩)] W (RB (fC cap cl fin l i 2) W):=by obtain⟨ru,DJ,hsx,h1c,Zd,h0c,h5⟩:=hh;obtain⟨h1,h2,h3,h4⟩:=h;exact PQ v' _ (g+1) cl fin _ W h2 h4 (by omega) h5
theorem call3(hh:i<=110/\(∀m,m<i->uB (T.tr l m))/\uB (T.tr l i)/\1<=cap/\cap<=449849/\0<=cl/\cl<=16)(W:World)(h:Ctx cap cl fin sv l i v' g W):Calls prog 310 #[v',iH (T.tr l i),.pointer (some ⟨g+1,0,none⟩)] W (RB (fC cap cl fin l i 3) W):=by obtain⟨ru,DJ,hsx,h1c,Zd,h0c,h5⟩:=hh;obtain⟨h1,h2,h3,h4⟩:=h;exact PR v' _ (g+1) cl fin _ W h2 h4
theorem call4(hh:i<=110/\(∀m,m<i->uB (T.tr l m))/\uB (T.tr l i)/\1<=cap/\cap<=449849/\0<=cl/\cl<=16)(W:World)(h:Ctx cap cl fin sv l i v' g W):Calls prog 311 #[v',iH (T.tr l i)] W (RB (fC cap cl fin l i 4) W):=by obtain⟨ru,DJ,hsx,h1c,Zd,h0c,h5⟩:=hh;obtain⟨h1,h2,h3,h4⟩:=h;exact PT v' i l _ W h1 ru DJ hsx.2.1
theorem call5(hh:i<=110/\(∀m,m<i->uB (T.tr l m))/\uB (T.tr l i)/\1<=cap/\cap<=449849/\0<=cl/\cl<=16)(W:World)(h:Ctx cap cl fin sv l i v' g W):Calls prog 312 #[v',iH (T.tr l i),.pointer (some ⟨g,0,none⟩)] W (RB (fC cap cl fin l i 5) W):=by obtain⟨ru,DJ,hsx,h1c,Zd,h0c,h5⟩:=hh;obtain⟨h1,h2,h3,h4⟩:=h;exact PU v' _ g cap W h3 (by omega) h1c Zd hsx.2.2.1 hsx.2.2.2.1
theorem call6(hh:i<=110/\(∀m,m<i->uB (T.tr l m))/\uB (T.tr l i)/\1<=cap/\cap<=449849/\0<=cl/\cl<=16)(W:World)(h:Ctx cap cl fin sv l i v' g W):Calls prog 313 #[v',iH (T.tr l i)] W (RB (fC cap cl fin l i 6) W):=by obtain⟨ru,DJ,hsx,h1c,Zd,h0c,h5⟩:=hh;obtain⟨h1,h2,h3,h4⟩:=h;exact PV v' _ W hsx
theorem call7(hh:i<=110/\(∀m,m<i->uB (T.tr l m))/\uB (T.tr l i)/\1<=cap/\cap<=449849/\0<=cl/\cl<=16)(W:World)(h:Ctx cap cl fin sv l i v' g W):Calls prog 314 #[v',iH (T.tr l i)] W (RB (fC cap cl fin l i 7) W):=by obtain⟨ru,DJ,hsx,h1c,Zd,h0c,h5⟩:=hh;obtain⟨h1,h2,h3,h4⟩:=h;exact PW v' _ W hsx.2.2.1 hsx.2.2.2.1
end
theorem Vf(cap cl:Int)(fin:Bool)(sv:Value)(l:List T.az)(w:World)(hr:aW w sv l)(hf:nC l)(h1:1<=cap)(h2:cap<=449849)(h3:l.length<=99)(h4:0<=cl)(h5:cl<=16)(h6:¬ (fin=true/\cl=0)):
 Calls prog 164 #[.int .i64 cap,.agg #[.int .i64 cl,.bool fin,sv]] w (qj cap cl fin l w):=by
 have Hr:=zH hr;obtain⟨a,c,b,off,rfl,hac,hcell⟩:=hr;have HC:=zH hcell; clear hcell;have Iw:=zH hf; clear hf;have H6:=zH h6;go_enter func164,ntmps164;go_upto_region 1 with (fail)
 go_cut [39] (fun v wx=>v=.bool false/\wx=w.alloc (.cells #[.int .i64 cl,.bool fin,.slice a l.length c] 37))
 case first=>
  cases fin
  ·clear h6;go_wp2_with fail;all_goals (go_meet; case rel=>exact⟨congrArg Value.bool (by simp only[Bool.or_eq_false_iff,decide_eq_false_iff_not]; omega),rfl⟩)
  ·have hz:(cl == 0)=false:=by rw[beq_eq_false_iff_ne]; exact fun h=>h6 ⟨rfl,h⟩
   clear h6;go_wp2_with fail;all_goals (go_meet; case rel=>exact⟨congrArg Value.bool (by simp only[Bool.or_eq_false_iff,decide_eq_false_iff_not]; omega),rfl⟩)
 clear h6;obtain⟨rfl,rfl⟩:=hcut;go_wp2_with fail
 go_loopw [43] (fun vi wr=>∃(i:Nat),i<=l.length/\vi=.int .i64 i/\Hid (∀m,m<i->T.okI cap cl fin l m)/\
  Below (w.heap.size+1) (w.alloc (.cells #[.int .i64 cl,.bool fin,.slice a l.length c] 37)) wr) (fun vi _=>l.length - (RowKit.intOf vi).toNat)
 case atStart=>exact⟨0,by omega,rfl,zH fun i hi=>by omega,by simpa using zB _ _⟩
 case round=>
  obtain⟨i,hi,rfl,HO,hb⟩:=hrel;obtain⟨wo,rfl⟩:∃wo:World,wo=wr:=⟨_,rfl⟩;have ht0:wo.cell? ⟨w.heap.size,0,none⟩=some (.int .i64 cl):=(hb.cell (p:=⟨w.heap.size,0,none⟩) (by simp)).trans (by simp[go_sem]);have ht1:wo.cell? ⟨w.heap.size,1,none⟩=some (.bool fin):=(hb.cell (p:=⟨w.heap.size,1,none⟩) (by simp)).trans (by simp[go_sem]);have ht2:wo.cell? ⟨w.heap.size,2,none⟩=some (.slice a l.length c):=(hb.cell (p:=⟨w.heap.size,2,none⟩) (by simp)).trans (by simp[go_sem]);have hsz:w.heap.size<wo.heap.size:=by have:=hb.size; simp at this; omega
  have hb0:Below w.heap.size w wo:=((zB _ _).alloc (zl _) _).trans (hb.mono (by omega));by_cases hlt:i<l.length
  ·obtain⟨ha,hrange⟩:=HC.out i hlt;have Ak:=zH (p:=i<=110/\(∀m,m<i->uB (T.tr l m))/\uB (T.tr l i)/\1<=cap/\cap<=449849/\0<=cl/\cl<=16) ⟨by omega,fun m hm=>Iw.out.2 m (by omega),Iw.out.2 i hlt,h1,h2,h4,h5⟩;obtain⟨v',hrv,hcut⟩:=UQ underlying35 sizeTrack (Hr.out.keep hb0) i hi;have hcut:=fun w'=>hcut i i w' rfl rfl
   obtain⟨x,hx⟩:∃x,x=T.tr l i:=⟨_,rfl⟩;rw[<-hx]at hrange;have Hx:=zH hx; clear hx;have hix:=fun w'=>aH underlying35 sizeTrack (cap:=c) ha hlt _ rfl w'
   have hrg:wo.rangeAt b (off+i * 7) (jy x):=fun j u hu=>(hb.cell (p:=⟨b,off+i * 7+j,none⟩) (by
    have:=zc w _ (hrange j u hu); simp only at this ⊢; omega)).trans (by
    have:=zc w _ (hrange j u hu);rw[World.cell?_alloc_lt _ _ _ this]; exact hrange j u hu)
   clear hrange;obtain⟨hc0,hc1,hc2,hc3,hc4,hc5,hc6⟩:=xO hrg;clear hrg;have Ha:=zH ha; clear ha;have hRW:=PX cap cl fin (.slice a l.length c) (wo.alloc (lq x));have hs1:(wo.alloc (lq x)).heap.size=wo.heap.size+1:=by simp
   have aaX:Ctx cap cl fin (.slice a l.length c) l i v' (wo.heap.size+1) (jv cap cl fin (.slice a l.length c) (wo.alloc (lq x))):=by
    refine⟨?_,?_,?_,?_⟩
    ·exact(hrv.keep ((zB _ _).alloc (zl _) _)).keep (uq _ _ _ _ _ (zl _))
    ·rw[<-hs1]; exact UM _ _ _ _ _
    ·rw[<-hs1]; exact UL _ _ _ _ _
    ·rw[wQ,hs1]; omega
   have hfn:=UN cap cl fin (.slice a l.length c) (wo.alloc (lq x));have Xo:=wQ cap cl fin (.slice a l.length c) (wo.alloc (lq x));have QN:Below (wo.heap.size+1) (wo.alloc (lq x)) (jv cap cl fin (.slice a l.length c) (wo.alloc (lq x))):=uq _ _ _ _ _ (by omega);rw[hs1]at hfn Xo hRW;obtain⟨wG,hwG⟩:∃wG,wG=jv cap cl fin (.slice a l.length c) (wo.alloc (lq x)):=⟨_,rfl⟩;rw[<-hwG]at aaX hfn Xo hRW QN;obtain⟨g,hg⟩:∃g,g=wo.heap.size+1:=⟨_,rfl⟩;rw[<-hg]at aaX hfn Xo hRW QN;have Hg:=zH hg;have afC:g<=wo.heap.size+1:=by omega
   have afD:wo.heap.size<g:=by omega
   have afp:g+1+1<wG.heap.size:=by omega
   have VX:=zH hfn;have HRW:=zH hRW;clear hwG hfn Xo hRW hg hs1;go_wp2_with (refine(aaI HRW.out).mono ?_; rintro e w' ⟨rfl,rfl⟩)
   go_loopw [52] (fun vj wr=>∃(j:Nat),j<=8/\vj=.int .i64 j/\Hid (∀r,r<j->fC cap cl fin l i r=true)/\Below wG.heap.size wG wr) (fun vj _=>8 - (RowKit.intOf vj).toNat)
   case atStart=>exact⟨0,by omega,rfl,zH fun i hi=>by omega,zB _ _⟩
   case round=>
    obtain⟨j,hj8,rfl,HJ,hbi⟩:=hrel;have wJ:Ctx cap cl fin (.slice a l.length c) l i v' g wr.drew:=(aaX.keep hbi).keep (zB _ _).drew;have ac0:Below g (wo.alloc (lq x)) wr:=QN.trans (hbi.mono (by omega));have afK:wG.heap.size<=wr.heap.size:=hbi.size;have hy2:wr.cell? ⟨w.heap.size,2,none⟩=some (.slice a l.length c):=(ac0.cell (p:=⟨w.heap.size,2,none⟩) (by simp only; omega)).trans ((World.cell?_alloc_lt _ _ _ (by simp only; omega)).trans ht2);have Zl:∀k,wr.cell? ⟨wo.heap.size,k,none⟩=(#[Value.int .i64 x.num,.int .i64 x.bP,.int .i64 x.st,.int .i64 x.len,.int .i64 x.nx,.int .i64 x.cZ,.int .i64 x.pk])[k]?:=fun k=>
     (ac0.cell (p:=⟨wo.heap.size,k,none⟩) (by simp only; omega)).trans (by simp[go_sem])
    have hx0:=Zl 0; have hx1:=Zl 1; have hx2:=Zl 2; have hx3:=Zl 3; have hx4:=Zl 4; have hx5:=Zl 5; have hx6:=Zl 6;simp only[List.getElem?_toArray,List.getElem?_cons_zero,List.getElem?_cons_succ]at hx0 hx1 hx2 hx3 hx4 hx5 hx6;clear Zl ht0 ht1 ht2;by_cases hjl:j<8
    ·have afF:∀W,(Instr.indexAt 334 (.slice (some ⟨g+1+1,0,none⟩) 8 8) (.int .i64 (j:Int))).run prog W=.ok (.pointer (some ⟨g+1+1,j,none⟩)) W:=fun W=>by have:=ku (P:=prog) (cap:=8) underlying334 sizeRule (rfl:some (⟨g+1+1,0,none⟩:Addr)=_) hjl _ rfl W;rwa[Nat.zero_add]at this
     rcases (by omega:j=0\/j=1\/j=2\/j=3\/j=4\/j=5\/j=6\/j=7) with hj | hj | hj | hj | hj | hj | hj | hj
     ·have hfv:wr.cell? ⟨g+1+1,j,none⟩=some (.func (.func 307) #[] #[]):=(hbi.cell (p:=⟨g+1+1,j,none⟩) (by simp only; omega)).trans (by rw[VX.out,hj]; rfl);have hcon:Calls prog 307 #[v',iH x] wr.drew (RB (fC cap cl fin l i 0) wr.drew):=by rw[Hx.out]; exact acJ Ak.out _ wJ
      generalize hq:fC cap cl fin l i 0=q at hcon;have HQ:=zH hq; clear hq;have Hj:=zH hj; clear hj;have dh:=zH hcon; clear hcon;cases q;all_goals
       go_wp2_with fail;go_still_tail 7,(by kernel_rfl);change wpList _ _ _ _ _ wr.drew;go_wp2_with (refine dh.out.mono ?_; rintro e w2 ⟨rfl,hb2⟩);first
        | (go_ret
           refine⟨fQ (Eq.symm ?_),(hb0.alloc (by omega) _).trans ((QN.mono (by omega)).trans ((hbi.mono (by omega)).drew.trans (hb2.mono (by show _<=wr.heap.size; omega))))⟩;rw[T.bJ,<-T.fP];intro h;have h7:=(jd cap cl fin l i).2 (h.2.2.2.2.2.2.1 i hlt) 0 (by omega);rw[HQ.out]at h7;cases h7)
        | (go_roundw
           case rel=>
            refine⟨j+1,by omega,by go_num,zH fun r hr=>?_,hbi.drew.trans (hb2.mono (by show _<=wr.heap.size; omega))⟩;by_cases e9:r<j
            ·exact HJ.out r e9
            ·have e10:r=0:=by have:=Hj.out; omega
             rw[e10]; exact HQ.out
           case measure=>simp[RowKit.intOf]; omega)
     ·have hfv:wr.cell? ⟨g+1+1,j,none⟩=some (.func (.func 308) #[] #[]):=(hbi.cell (p:=⟨g+1+1,j,none⟩) (by simp only; omega)).trans (by rw[VX.out,hj]; rfl);have hcon:Calls prog 308 #[v',iH x] wr.drew (RB (fC cap cl fin l i 1) wr.drew):=by rw[Hx.out]; exact acK Ak.out _ wJ
      generalize hq:fC cap cl fin l i 1=q at hcon;have HQ:=zH hq; clear hq;have Hj:=zH hj; clear hj;have dh:=zH hcon; clear hcon;cases q;all_goals
       go_wp2_with fail;go_still_tail 7,(by kernel_rfl);change wpList _ _ _ _ _ wr.drew;go_wp2_with (refine dh.out.mono ?_; rintro e w2 ⟨rfl,hb2⟩);first
        | (go_ret
           refine⟨fQ (Eq.symm ?_),(hb0.alloc (by omega) _).trans ((QN.mono (by omega)).trans ((hbi.mono (by omega)).drew.trans (hb2.mono (by show _<=wr.heap.size; omega))))⟩;rw[T.bJ,<-T.fP];intro h;have h7:=(jd cap cl fin l i).2 (h.2.2.2.2.2.2.1 i hlt) 1 (by omega);rw[HQ.out]at h7;cases h7)
        | (go_roundw
           case rel=>
            refine⟨j+1,by omega,by go_num,zH fun r hr=>?_,hbi.drew.trans (hb2.mono (by show _<=wr.heap.size; omega))⟩;by_cases e9:r<j
            ·exact HJ.out r e9
            ·have e10:r=1:=by have:=Hj.out; omega
             rw[e10]; exact HQ.out
           case measure=>simp[RowKit.intOf]; omega)
     ·have hfv:wr.cell? ⟨g+1+1,j,none⟩=some (.func (.func 309) #[] #[.pointer (some ⟨g+1,0,none⟩)]):=(hbi.cell (p:=⟨g+1+1,j,none⟩) (by simp only; omega)).trans (by rw[VX.out,hj]; rfl);have hcon:Calls prog 309 #[v',iH x,.pointer (some ⟨g+1,0,none⟩)] wr.drew (RB (fC cap cl fin l i 2) wr.drew):=by rw[Hx.out]; exact call2 Ak.out _ wJ
      generalize hq:fC cap cl fin l i 2=q at hcon;have HQ:=zH hq; clear hq;have Hj:=zH hj; clear hj;have dh:=zH hcon; clear hcon;cases q;all_goals
       go_wp2_with fail;go_still_tail 7,(by kernel_rfl);change wpList _ _ _ _ _ wr.drew;go_wp2_with (refine dh.out.mono ?_; rintro e w2 ⟨rfl,hb2⟩);first
        | (go_ret
           refine⟨fQ (Eq.symm ?_),(hb0.alloc (by omega) _).trans ((QN.mono (by omega)).trans ((hbi.mono (by omega)).drew.trans (hb2.mono (by show _<=wr.heap.size; omega))))⟩;rw[T.bJ,<-T.fP];intro h;have h7:=(jd cap cl fin l i).2 (h.2.2.2.2.2.2.1 i hlt) 2 (by omega);rw[HQ.out]at h7;cases h7)
        | (go_roundw
           case rel=>
            refine⟨j+1,by omega,by go_num,zH fun r hr=>?_,hbi.drew.trans (hb2.mono (by show _<=wr.heap.size; omega))⟩;by_cases e9:r<j
            ·exact HJ.out r e9
            ·have e10:r=2:=by have:=Hj.out; omega
             rw[e10]; exact HQ.out
           case measure=>simp[RowKit.intOf]; omega)
     ·have hfv:wr.cell? ⟨g+1+1,j,none⟩=some (.func (.func 310) #[] #[.pointer (some ⟨g+1,0,none⟩)]):=(hbi.cell (p:=⟨g+1+1,j,none⟩) (by simp only; omega)).trans (by rw[VX.out,hj]; rfl);have hcon:Calls prog 310 #[v',iH x,.pointer (some ⟨g+1,0,none⟩)] wr.drew (RB (fC cap cl fin l i 3) wr.drew):=by rw[Hx.out]; exact call3 Ak.out _ wJ
      generalize hq:fC cap cl fin l i 3=q at hcon;have HQ:=zH hq; clear hq;have Hj:=zH hj; clear hj;have dh:=zH hcon; clear hcon;cases q;all_goals
       go_wp2_with fail;go_still_tail 7,(by kernel_rfl);change wpList _ _ _ _ _ wr.drew;go_wp2_with (refine dh.out.mono ?_; rintro e w2 ⟨rfl,hb2⟩);first
        | (go_ret
           refine⟨fQ (Eq.symm ?_),(hb0.alloc (by omega) _).trans ((QN.mono (by omega)).trans ((hbi.mono (by omega)).drew.trans (hb2.mono (by show _<=wr.heap.size; omega))))⟩;rw[T.bJ,<-T.fP];intro h;have h7:=(jd cap cl fin l i).2 (h.2.2.2.2.2.2.1 i hlt) 3 (by omega);rw[HQ.out]at h7;cases h7)
        | (go_roundw
           case rel=>
            refine⟨j+1,by omega,by go_num,zH fun r hr=>?_,hbi.drew.trans (hb2.mono (by show _<=wr.heap.size; omega))⟩;by_cases e9:r<j
            ·exact HJ.out r e9
            ·have e10:r=3:=by have:=Hj.out; omega
             rw[e10]; exact HQ.out
           case measure=>simp[RowKit.intOf]; omega)
     ·have hfv:wr.cell? ⟨g+1+1,j,none⟩=some (.func (.func 311) #[] #[]):=(hbi.cell (p:=⟨g+1+1,j,none⟩) (by simp only; omega)).trans (by rw[VX.out,hj]; rfl);have hcon:Calls prog 311 #[v',iH x] wr.drew (RB (fC cap cl fin l i 4) wr.drew):=by rw[Hx.out]; exact call4 Ak.out _ wJ
      generalize hq:fC cap cl fin l i 4=q at hcon;have HQ:=zH hq; clear hq;have Hj:=zH hj; clear hj;have dh:=zH hcon; clear hcon;cases q;all_goals
       go_wp2_with fail;go_still_tail 7,(by kernel_rfl);change wpList _ _ _ _ _ wr.drew;go_wp2_with (refine dh.out.mono ?_; rintro e w2 ⟨rfl,hb2⟩);first
        | (go_ret
           refine⟨fQ (Eq.symm ?_),(hb0.alloc (by omega) _).trans ((QN.mono (by omega)).trans ((hbi.mono (by omega)).drew.trans (hb2.mono (by show _<=wr.heap.size; omega))))⟩;rw[T.bJ,<-T.fP];intro h;have h7:=(jd cap cl fin l i).2 (h.2.2.2.2.2.2.1 i hlt) 4 (by omega);rw[HQ.out]at h7;cases h7)
        | (go_roundw
           case rel=>
            refine⟨j+1,by omega,by go_num,zH fun r hr=>?_,hbi.drew.trans (hb2.mono (by show _<=wr.heap.size; omega))⟩;by_cases e9:r<j
            ·exact HJ.out r e9
            ·have e10:r=4:=by have:=Hj.out; omega
             rw[e10]; exact HQ.out
           case measure=>simp[RowKit.intOf]; omega)
     ·have hfv:wr.cell? ⟨g+1+1,j,none⟩=some (.func (.func 312) #[] #[.pointer (some ⟨g,0,none⟩)]):=(hbi.cell (p:=⟨g+1+1,j,none⟩) (by simp only; omega)).trans (by rw[VX.out,hj]; rfl);have hcon:Calls prog 312 #[v',iH x,.pointer (some ⟨g,0,none⟩)] wr.drew (RB (fC cap cl fin l i 5) wr.drew):=by rw[Hx.out]; exact call5 Ak.out _ wJ
      generalize hq:fC cap cl fin l i 5=q at hcon;have HQ:=zH hq; clear hq;have Hj:=zH hj; clear hj;have dh:=zH hcon; clear hcon;cases q;all_goals
       go_wp2_with fail;go_still_tail 7,(by kernel_rfl);change wpList _ _ _ _ _ wr.drew;go_wp2_with (refine dh.out.mono ?_; rintro e w2 ⟨rfl,hb2⟩);first
        | (go_ret
           refine⟨fQ (Eq.symm ?_),(hb0.alloc (by omega) _).trans ((QN.mono (by omega)).trans ((hbi.mono (by omega)).drew.trans (hb2.mono (by show _<=wr.heap.size; omega))))⟩;rw[T.bJ,<-T.fP];intro h;have h7:=(jd cap cl fin l i).2 (h.2.2.2.2.2.2.1 i hlt) 5 (by omega);rw[HQ.out]at h7;cases h7)
        | (go_roundw
           case rel=>
            refine⟨j+1,by omega,by go_num,zH fun r hr=>?_,hbi.drew.trans (hb2.mono (by show _<=wr.heap.size; omega))⟩;by_cases e9:r<j
            ·exact HJ.out r e9
            ·have e10:r=5:=by have:=Hj.out; omega
             rw[e10]; exact HQ.out
           case measure=>simp[RowKit.intOf]; omega)
     ·have hfv:wr.cell? ⟨g+1+1,j,none⟩=some (.func (.func 313) #[] #[]):=(hbi.cell (p:=⟨g+1+1,j,none⟩) (by simp only; omega)).trans (by rw[VX.out,hj]; rfl);have hcon:Calls prog 313 #[v',iH x] wr.drew (RB (fC cap cl fin l i 6) wr.drew):=by rw[Hx.out]; exact call6 Ak.out _ wJ
      generalize hq:fC cap cl fin l i 6=q at hcon;have HQ:=zH hq; clear hq;have Hj:=zH hj; clear hj;have dh:=zH hcon; clear hcon;cases q;all_goals
       go_wp2_with fail;go_still_tail 7,(by kernel_rfl);change wpList _ _ _ _ _ wr.drew;go_wp2_with (refine dh.out.mono ?_; rintro e w2 ⟨rfl,hb2⟩);first
        | (go_ret
           refine⟨fQ (Eq.symm ?_),(hb0.alloc (by omega) _).trans ((QN.mono (by omega)).trans ((hbi.mono (by omega)).drew.trans (hb2.mono (by show _<=wr.heap.size; omega))))⟩;rw[T.bJ,<-T.fP];intro h;have h7:=(jd cap cl fin l i).2 (h.2.2.2.2.2.2.1 i hlt) 6 (by omega);rw[HQ.out]at h7;cases h7)
        | (go_roundw
           case rel=>
            refine⟨j+1,by omega,by go_num,zH fun r hr=>?_,hbi.drew.trans (hb2.mono (by show _<=wr.heap.size; omega))⟩;by_cases e9:r<j
            ·exact HJ.out r e9
            ·have e10:r=6:=by have:=Hj.out; omega
             rw[e10]; exact HQ.out
           case measure=>simp[RowKit.intOf]; omega)
     ·have hfv:wr.cell? ⟨g+1+1,j,none⟩=some (.func (.func 314) #[] #[]):=(hbi.cell (p:=⟨g+1+1,j,none⟩) (by simp only; omega)).trans (by rw[VX.out,hj]; rfl);have hcon:Calls prog 314 #[v',iH x] wr.drew (RB (fC cap cl fin l i 7) wr.drew):=by rw[Hx.out]; exact call7 Ak.out _ wJ
      generalize hq:fC cap cl fin l i 7=q at hcon;have HQ:=zH hq; clear hq;have Hj:=zH hj; clear hj;have dh:=zH hcon; clear hcon;cases q;all_goals
       go_wp2_with fail;go_still_tail 7,(by kernel_rfl);change wpList _ _ _ _ _ wr.drew;go_wp2_with (refine dh.out.mono ?_; rintro e w2 ⟨rfl,hb2⟩);first
        | (go_ret
           refine⟨fQ (Eq.symm ?_),(hb0.alloc (by omega) _).trans ((QN.mono (by omega)).trans ((hbi.mono (by omega)).drew.trans (hb2.mono (by show _<=wr.heap.size; omega))))⟩;rw[T.bJ,<-T.fP];intro h;have h7:=(jd cap cl fin l i).2 (h.2.2.2.2.2.2.1 i hlt) 7 (by omega);rw[HQ.out]at h7;cases h7)
        | (go_roundw
           case rel=>
            refine⟨j+1,by omega,by go_num,zH fun r hr=>?_,hbi.drew.trans (hb2.mono (by show _<=wr.heap.size; omega))⟩;by_cases e9:r<j
            ·exact HJ.out r e9
            ·have e10:r=7:=by have:=Hj.out; omega
             rw[e10]; exact HQ.out
           case measure=>simp[RowKit.intOf]; omega)
    ·have hJ8:∀r,r<8->fC cap cl fin l i r=true:=fun r hr=>HJ.out r (by omega)
     have ni:=zH ((jd cap cl fin l i).1 hJ8);clear hJ8;have hd8:decide ((j:Int)<8)=false:=by rw[decide_eq_false_iff_not]; omega
     go_wp2_with fail;go_roundw;case rel=>
      refine⟨i+1,by omega,by go_num,zH fun m hm=>?_,(hb.alloc (by omega) _).trans ((QN.mono (by omega)).trans (hbi.mono (by omega)))⟩;by_cases e9:m<i
      ·exact HO.out m e9
      ·obtain rfl:m=i:=by omega
       exact ni.out
     case measure=>simp[RowKit.intOf]; omega
  ·obtain rfl:i=l.length:=by omega
   have hE:T.aF cap cl fin l=(decide (cl=0) || (decide (0<l.length) && decide (cl<=T.sB l l.length))):=by rw[Bool.eq_iff_iff,T.ay,<-T.fP];unfold T.Le;simp only[Bool.and_eq_true,Bool.or_eq_true,decide_eq_true_eq];exact⟨fun h=>h.2.2.2.2.2.2.2,fun h=>⟨h1,h2,h3,h4,h5,H6.out,HO.out,h⟩⟩
   by_cases hc0:cl=0
   ·have hz:(cl == 0)=true:=by rw[beq_iff_eq]; exact hc0
    have HEq:Hid (T.aF cap cl fin l=true):=zH (by rw[hE]; simp[hc0]);clear hE hc0 hlt hi;go_wp2_with fail;go_quiet (fail);go_wp2_with fail;go_ret;exact⟨fQ HEq.out.symm,Below.drewN hb0 _⟩
   ·have hz:(cl == 0)=false:=by rw[beq_eq_false_iff_ne]; exact hc0
    by_cases hn:0<l.length
    ·obtain⟨m,hm⟩:∃m,l.length=m+1:=⟨l.length - 1,by omega⟩;obtain⟨ha,hrange⟩:=HC.out m (by omega);have hsl:T.sB l l.length=(T.tr l m).bP:=by rw[hm]; exact T.eQ l m
     have hq:T.aF cap cl fin l=decide (cl<=(T.tr l m).bP):=by rw[hE,hsl]; simp[hc0,hn]
     obtain⟨x,hx⟩:∃x,x=T.tr l m:=⟨_,rfl⟩;rw[<-hx]at hrange hq;have HEq:=zH hq;have hml:m<l.length:=by omega
     have hm1:((l.length:Int) - 1)=(m:Int):=by omega
     have hix:=fun w'=>aH underlying35 sizeTrack (cap:=c) ha hml _ rfl w'
     have hrg:wo.rangeAt b (off+m * 7) (jy x):=fun j u hu=>(hb.cell (p:=⟨b,off+m * 7+j,none⟩) (by
      have:=zc w _ (hrange j u hu); simp only at this ⊢; omega)).trans (by
      have:=zc w _ (hrange j u hu);rw[World.cell?_alloc_lt _ _ _ this]; exact hrange j u hu)
     obtain⟨hc0',hc1,hc2,hc3,hc4,hc5,hc6⟩:=xO hrg;have Ha:=zH ha;have hd0:decide (0<l.length)=true:=zt hn;have hwp:IntKind.i64.wrap ((l.length:Int) - 1)=m:=by rw[hm1]; exact IntWalk.i64_in _ (by omega)
     have Hm:=zH hm;have Hm1:=zH hm1;clear hrange hrg ha hE hc0 hlt hi hsl hx hq hn hm;go_wp2_with fail;go_quiet (fail);go_wp2_with fail;go_ret;exact⟨fQ (by rw[HEq.out]),Below.drewN hb0 _⟩
    ·have hd0:decide (0<l.length)=false:=zf hn;have HEq:Hid (T.aF cap cl fin l=false):=zH (by rw[hE]; simp[hc0,hn]);clear hE hc0 hlt hi hn;go_wp2_with fail;go_quiet (fail);go_wp2_with fail;go_ret;exact⟨fQ HEq.out.symm,Below.drewN hb0 _⟩
theorem aV(cap cl:Int)(fin:Bool)(sv:Value)(l:List T.az)(w:World)(hr:aW w sv l)(hf:nC l):
 Calls prog 164 #[.int .i64 cap,au cl fin sv] w (qj cap cl fin l w):=by
 by_cases h:1<=cap/\cap<=449849/\l.length<=99/\0<=cl/\cl<=16/\¬ (fin=true/\cl=0)
 ·obtain⟨h1,h2,h3,h4,h5,h6⟩:=h;exact Vf cap cl fin sv l w hr hf h1 h2 h3 h4 h5 h6
 ·exact Cf cap cl fin sv l w hr h (by have:=hf.1; omega)
theorem Hu(cap cl:Int)(fin:Bool)(sv:Value)(l:List T.az)(w:World)(hr:aW w sv l)(hf:nC l):
 Calls prog 130 #[.int .i64 cap,au cl fin sv] w (qj cap cl fin l w):=by
 by_cases h:1<=cap/\cap<=449849/\l.length<=99/\0<=cl/\cl<=16
 ·obtain⟨h1,h2,h3,h4,h5⟩:=h;exact PZ cap cl fin sv l w hr hf h1 h2 h3 h4 h5
 ·exact zM cap cl fin sv l w hr h (by have:=hf.1; omega)
def St(W:World)(N:Nat)(cl:Int)(fin:Bool)(sv:Value):Prop:=
 W.heap[N]? = some (.cells #[.int .i64 cl,.bool fin,sv] 37 (0,0))/\W.heap[N+1]? = some (.cells #[.int .i64 0,.bool false,.slice none 0 0] 37 (0,0))
abbrev acI(w:World)(cl:Int)(fin:Bool)(sv:Value):World:=
 (w.alloc (.cells #[.int .i64 cl,.bool fin,sv] 37)).alloc (.cells #[.int .i64 0,.bool false,.slice none 0 0] 37)
section
variable {W W':World} {N:Nat} {cl:Int} {fin:Bool} {sv:Value}
theorem St.new(w:World)(cl:Int)(fin:Bool)(sv:Value):St (acI w cl fin sv) w.heap.size cl fin sv:=by
 refine⟨?_,?_⟩
 ·exact heap_alloc2_old _ _ _
 ·exact heap_alloc2_new _ _ _
theorem St.lt(h:St W N cl fin sv):N+1<W.heap.size:=(Array.getElem?_eq_some_iff.1 h.2).1
theorem St.keep(h:St W N cl fin sv){B:Nat}(hb:Below B W W')(hB:N+1<B):St W' N cl fin sv:=⟨(hb.block N (by omega)).trans h.1,(hb.block (N+1) hB).trans h.2⟩
theorem St.call(h:St W N cl fin sv)(hb:Below W.heap.size W W'):St W' N cl fin sv:=h.keep hb h.lt
theorem St.alloc(h:St W N cl fin sv)(o:Obj):St (W.alloc o) N cl fin sv:=h.keep ((zB _ _).alloc (zl _) o) h.lt
theorem St.facts(h:St W N cl fin sv):W.cell? ⟨N,0,none⟩=some (.int .i64 cl)/\W.cell? ⟨N,1,none⟩=some (.bool fin)/\W.cell? ⟨N,2,none⟩=some sv/\
 W.cell? ⟨N+1,0,none⟩=some (.int .i64 0)/\W.cell? ⟨N+1,1,none⟩=some (.bool false)/\W.cell? ⟨N+1,2,none⟩=some (.slice none 0 0)/\
 (∀k,W.frozen? ⟨N,k,none⟩=false)/\(∀k,W.frozen? ⟨N+1,k,none⟩=false):=by
 obtain⟨h1,h2⟩:=h;refine⟨cell_of_row _ _ _ _ _ _ h1,cell_of_row _ _ _ _ _ _ h1,cell_of_row _ _ _ _ _ _ h1,cell_of_row _ _ _ _ _ _ h2,cell_of_row _ _ _ _ _ _ h2,cell_of_row _ _ _ _ _ _ h2,fun k=>?_,fun k=>?_⟩
 ·simp[World.frozen?,h1]
 ·simp[World.frozen?,h2]
theorem setB{W:World}{g:Nat}{t:TypeId}{cs:Array Value}(h:W.heap[g]? = some (.cells cs t (0,0)))(i:Nat)(u:Value):(W.setCell ⟨g,i,none⟩ u).heap[g]? = some (.cells (cs.setIfInBounds i u) t (0,0)):=by simp[World.setCell,Array.getElem?_modify,h]
theorem St.put(h:St W N cl fin sv)(cl':Int)(fin':Bool)(sv':Value):St (((W.setCell ⟨N,0,none⟩ (.int .i64 cl')).setCell ⟨N,1,none⟩ (.bool fin')).setCell ⟨N,2,none⟩ sv') N cl' fin' sv':=by
 refine⟨?_,?_⟩
 ·exact setB (setB (setB h.1 0 _) 1 _) 2 _
 ·rw[zh _ _ _ _ (by simp),zh _ _ _ _ (by simp),zh _ _ _ _ (by simp)];exact h.2
end
theorem aX(w:World)(cl:Int)(fin:Bool)(sv:Value):Below w.heap.size w (acI w cl fin sv):=((zB _ _).alloc (zl _) _).alloc (by simp) _
theorem nS{w:World}{base e size n:Nat}{v:Value}{xs:List Value}(h:w.ownsRow base e size v n xs):∀k,v.ownBlock=some k->base<=k:=by
 intro k hk;rcases h.2 with ⟨rfl,_⟩ | ⟨g,cap,cur,rfl,hb,_⟩
 ·simp[Value.ownBlock]at hk
 ·have:g=k:=by simpa[Value.ownBlock]using hk
  omega
theorem St.own{W W':World}{N:Nat}{cl:Int}{fin:Bool}{sv v:Value}{base e size n:Nat}{xs:List Value}(h:St W N cl fin sv)(ho:W.ownsRow base e size v n xs)(hb:W.grownBy W' v.ownBlock)(hB:N+1<base)(hB2:base<=W.heap.size):St W' N cl fin sv:=
 h.keep ((zB base W).grown hb hB2 (nS ho)) hB
theorem aW.one(W:World)(y:T.az):aW (W.alloc (lq y)) (.slice (some ⟨W.heap.size,0,none⟩) 1 1) [y]:=by have h:=World.ownsRow_lit (base:=W.heap.size) (e:=94) (size:=7) W #[.int .i64 y.num,.int .i64 y.bP,.int .i64 y.st,.int .i64 y.len,.int .i64 y.nx,.int .i64 y.cZ,.int .i64 y.pk] 1 (zl _) (by simp[maxLen]) (by simp);exact aW.bM (l:=[y]) h
theorem own_drewN{w:World}{base e size n:Nat}{v:Value}{xs:List Value}(h:w.ownsRow base e size v n xs)(k:Nat):(w.drewN k).ownsRow base e size v n xs:=h
structure eY where
 cl:Int
 fin:Bool
 l:List T.az
 code:Int
def eY.bad(c:Int):eY:=⟨0,false,[],c⟩
end
end Go.Proofs.YtfnehkmhcmkhjaaGreat
