/- Parts -/
import Derived.Test.YtfnehkmhcmkhjaaGreatDu33
import Derived.Test.YtfnehkmhcmkhjaaGreatDu32
set_option maxRecDepth 100000
set_option maxHeartbeats 8000000
set_option linter.unusedVariables false
set_option linter.unusedSimpArgs false
namespace Go.Proofs.YtfnehkmhcmkhjaaGreat
open Tryz
namespace T7
open Go Go.RowKit C9 wu
def ajm(w0 w1:World)(r:Nat)(W:World):Prop:=W=(match r with|0=>w0|_=>w1)
def VW(p pm g o:Nat)(CE y s1 s2:Int)(i:Nat)(v:Value)(W:World):Prop:=match i with
 |0=>v=.pointer (some ⟨p,0,none⟩)
 |1=>v=.pointer (some ⟨p,0,none⟩)
 |2=>v=.pointer (some ⟨p,2,none⟩)
 |3=>v=.pointer (some ⟨pm,0,none⟩)
 |4=>v=.pointer (some ⟨g,o,none⟩)
 |5=>v=.pointer (some ⟨g,o,none⟩)
 |6=>v=.pointer (some ⟨g,o+4,none⟩)
 |7=>v=.int .i64 CE
 |8=>v=.int .i64 y
 |9=>v=.tuple #[.int .i64 s1,.int .i64 s2]
 |10=>v=.tuple #[.int .i64 s1,.int .i64 s2]
 |11=>v=.int .i64 s1
 |12=>v=.int .i64 s2
 |13=>v=.int .i64 s1
 |14=>v=.int .i64 s2
 |_=>True
theorem Tv(p pm g o:Nat)(CE y s1 s2:Int)(i:Nat)(v:Value)(W W':World)(hR:(λW W'=>Below W.heap.size W W') W W')(h:VW p pm g o CE y s1 s2 i v W):VW p pm g o CE y s1 s2 i v W':=by unfold VW at h ⊢;split at h <;> first|exact h
def VX(g o na:Nat)(en st CE pk e2 e3 e4 e5 e6 rn:Int)(i:Nat)(v:Value)(W:World):Prop:=match i with
 |0=>v=.pointer (some ⟨g,o,none⟩)
 |1=>v=.int .i64 en
 |2=>v=.pointer (some ⟨g,o,none⟩)
 |3=>v=.pointer (some ⟨g,o,none⟩)
 |4=>v=.pointer (some ⟨g,o+2,none⟩)
 |5=>v=.int .i64 st
 |6=>v=.pointer (some ⟨g,o,none⟩)
 |7=>v=.pointer (some ⟨g,o,none⟩)
 |8=>v=.pointer (some ⟨g,o+4,none⟩)
 |9=>v=.int .i64 CE
 |10=>v=.pointer (some ⟨g,o,none⟩)
 |11=>v=.pointer (some ⟨g,o,none⟩)
 |12=>v=.pointer (some ⟨g,o+2,none⟩)
 |13=>v=.int .i64 st
 |14=>v=.int .i64 (na:Nat)
 |15=>v=.pointer (some ⟨g,o,none⟩)
 |16=>v=.pointer (some ⟨g,o,none⟩)
 |17=>v=.pointer (some ⟨g,o+6,none⟩)
 |18=>v=.int .i64 pk
 |19=>v=.int .i64 e2
 |20=>v=.int .i64 e3
 |21=>v=.pointer (some ⟨g,o,none⟩)
 |22=>v=.pointer (some ⟨g,o,none⟩)
 |23=>v=.pointer (some ⟨g,o+6,none⟩)
 |24=>v=.int .i64 pk
 |25=>v=.int .i64 e4
 |26=>v=.pointer (some ⟨g,o,none⟩)
 |27=>v=.pointer (some ⟨g,o,none⟩)
 |28=>v=.pointer (some ⟨g,o+6,none⟩)
 |29=>v=.int .i64 pk
 |30=>v=.int .i64 e5
 |31=>v=.int .i64 e6
 |32=>v=.int .i64 rn
 |33=>v=.pointer (some ⟨g,o,none⟩)
 |34=>v=.pointer (some ⟨g,o+4,none⟩)
 |_=>True
def acz:Nat->Option Nat
 |35=>some 0
 |_=>none
theorem Tz(g o na:Nat)(en st CE pk e2 e3 e4 e5 e6 rn:Int)(i r:Nat)(v:Value)(W W':World)(hk:∀k,acz i=some k->k<r)(hR:(OB) r W W')(h:VX g o na en st CE pk e2 e3 e4 e5 e6 rn i v W):VX g o na en st CE pk e2 e3 e4 e5 e6 rn i v W':=by unfold VX at h ⊢;split at h <;> first|exact h
structure I7 (B g c:Nat) (l:List T.ax) (w W:World):Prop where
 own:W.ownsRow B 94 7 (.slice (some ⟨g,0,none⟩) l.length c) l.length (fl l)
 gr:w.grownBy W (some g)
theorem I7.below{B g c:Nat}{l:List T.ax}{w W W':World}(h:I7 B g c l w W)(hb:Below W.heap.size W W'):I7 B g c l w W':=
 ⟨aV h.own hb,h.gr.trans ⟨hb.os,hb.tape,hb.output,hb.size,λk hk _=>hb.block k hk⟩⟩
theorem I7.put{B g c:Nat}{l:List T.ax}{w W:World}(h:I7 B g c l w W){i:Nat}(hi:i<l.length)(j:Nat)(hj:j<7)(v:Value)(x:T.ax)(hx:kK x=(kK (T.tr l i)).set j v):I7 B g c (l.set i x) w (W.setCell ⟨g,i*7+j,none⟩ v):=by have h1:=MP h.own i j hi hj v x hx;refine⟨by rw[Yu];exact h1,h.gr.trans ⟨rfl,rfl,rfl,by simp,λk h1 h2=>zh _ _ _ k (λe=>h2 (by rw[e]))⟩⟩
theorem I7.cells{B g c:Nat}{l:List T.ax}{w W:World}(h:I7 B g c l w W){i:Nat}(hi:i<l.length):W.rangeAt g (i*7) (kK (T.tr l i)):=Jy h.own i hi
theorem I7.upd{B g c i o:Nat}{l:List T.ax}{x x':T.ax}{w W:World}(h:I7 B g c (l.set i x) w W)(hi:i<l.length)(ho:o=i*7)(j:Nat)(hj:j<7)(v:Value)(hx:kK x'=(kK x).set j v):I7 B g c (l.set i x') w (W.setCell ⟨g,o+j,none⟩ v):=by have h1:=h.put (i:=i) (by simpa using hi) j hj v x' (by rw[T.gy l x i hi];exact hx);rw[List.set_set]at h1;rw[ho];exact h1
theorem I7.q{B g c i o:Nat}{l:List T.ax}{x:T.ax}{w W:World}(h:I7 B g c (l.set i x) w W)(hi:i<l.length)(ho:o=i*7):W.rangeAt g o (kK x):=by have h1:=h.cells (i:=i) (by simpa using hi);rw[T.gy l x i hi,<-ho]at h1;exact h1
structure TkB (t:T.ax):Prop where
 st:0<=t.st
 len:1<=t.len
 e:t.st+t.len<=449849
 pk:0<=t.pk
 pk2:t.pk<=1024
theorem w1{a b:Int}(h:0<=a)(h1:1<=b)(h2:a+b<=449849):wrap64 (a+b)=a+b:=by unfold wrap64;omega
theorem w2{a:Int}{k:Nat}(h:0<=a)(h1:a+(k+1:Nat)<=449849):wrap64 (a+(k+1:Nat)-1)=a+(k:Nat):=by unfold wrap64;omega
theorem Uu{M:aA}{st:Int}{k:Nat}(h:(M.eF (st+(k:Nat))).1=0):jo M st (k+1)=jo M st k:=by show(if (M.eF (st+(k:Nat))).1=0 then jo M st k else k+1)=_;rw[zj h]
theorem Ut{M:aA}{st:Int}{k:Nat}(h:(M.eF (st+(k:Nat))).1≠0):jo M st (k+1)=k+1:=by show(if (M.eF (st+(k:Nat))).1=0 then jo M st k else k+1)=_;rw[zi h]
theorem pkn{a:Nat}{st len pk:Int}(h0:0<=st)(h1:1<=len)(h2:st+len<=449849)(h3:0<pk)(h4:pk<=1024)(ha:(a:Int)<=len):
 wrap64 (st+(a:Int)-st)=a/\wrap64 ((a:Int)+pk)=(a:Int)+pk/\wrap64 ((a:Int)+pk-1)=(a:Int)+pk-1/\wrap64 (((a:Int)+pk-1).tdiv pk)=((a:Int)+pk-1).tdiv pk/\wrap64 (((a:Int)+pk-1).tdiv pk*pk)=((a:Int)+pk-1).tdiv pk*pk/\wrap64 (st+((a:Int)+pk-1).tdiv pk*pk)=st+((a:Int)+pk-1).tdiv pk*pk:=by
 have hn:0<=(a:Int)+pk-1:=by omega
 have e:((a:Int)+pk-1).tdiv pk=((a:Int)+pk-1)/pk:=Int.tdiv_eq_ediv_of_nonneg hn;have q0:0<=((a:Int)+pk-1)/pk:=Int.ediv_nonneg hn (by omega);have q1:((a:Int)+pk-1)/pk*pk<=(a:Int)+pk-1:=Int.ediv_mul_le _ (by omega);have q2:((a:Int)+pk-1)/pk<=(a:Int)+pk-1:=Int.ediv_le_self _ hn;have q3:0<=((a:Int)+pk-1)/pk*pk:=Int.mul_nonneg q0 (by omega);rw[e];generalize ((a:Int)+pk-1)/pk*pk=z at *;generalize ((a:Int)+pk-1)/pk=q at *;unfold wrap64;refine⟨by omega,by omega,by omega,by omega,by omega,by omega⟩
theorem aaU{w:World}{p pm B g c:Nat}{M:aA}{X R:Nat->Prop}(hm:fF w pm M X R)(hn:M.n<=4096)(hc:w.cell? ⟨p,2,none⟩=some (.pointer (some ⟨pm,0,none⟩)))(hgp:g≠p)(hgx:¬ X g)(hgr:¬ R g)
 (l:List T.ax)(ho:w.ownsRow B 94 7 (.slice (some ⟨g,0,none⟩) l.length c) l.length (fl l)){i:Nat}(hi:i<l.length)(hb:TkB (T.tr l i)):
 Calls prog 163 #[.pointer (some ⟨p,0,none⟩),.pointer (some ⟨g,i*7,none⟩)] w λe w'=>e=.returned (.tuple #[])/\I7 B g c (l.set i (lV M (T.tr l i))) w w':=by
 have hpl:p<w.heap.size:=zc w _ hc;obtain⟨L,hmc⟩:=hm;have ak6:Hid (∀W,w.grownBy W (some g)->W.cell? ⟨p,2,none⟩=some (.pointer (some ⟨pm,0,none⟩))/\∀b:Int,Calls prog 68 #[.pointer (some ⟨pm,0,none⟩),.int .i64 b] W (ai4 (.tuple #[.int .i64 (M.eF b).1,.int .i64 (M.eF b).2]) W)):=zH λW hW=>by
  refine⟨?_,λb=>Dz ⟨L,hmc.keep hW.size λb hb=>hW.block b (hmc.lt b hb) λe=>?_⟩ hn b⟩
  ·have:=hW.block p hpl (λe=>hgp (zs e).symm);rw[<-hc];simp only[World.cell?,this]
  ·have:=zs e;subst this;exact hb.elim hgx hgr
 obtain⟨o,hoo⟩:∃o,o=i*7:=⟨_,rfl⟩;have HO:=zH hoo;have vH:Hid (I7 B g c l w w):=zH ⟨ho,⟨rfl,rfl,rfl,zl _,λ_ _ _=>rfl⟩⟩;obtain⟨t,ht⟩:∃t,t=T.tr l i:=⟨_,rfl⟩;have HT:=zH ht;have HI:=zH hi;rw[<-ht]at hb;obtain⟨b1,b2,b3,b4,b5⟩:=hb;have HB:=zH (And.intro b1 (And.intro b2 (And.intro b3 (And.intro b4 b5))));rw[<-ht,<-hoo];clear hmc hn hc hgp hgx hgr ho hi ht hoo hpl;obtain⟨num,dm,st,len,nx,dZ,pk⟩:=t;dsimp only at b1 b2 b3 b4 b5 HB;obtain⟨ln,rfl⟩:∃n:Nat,len=n:=⟨len.toNat,by omega⟩;have G9:Hid (I7 B g c (l.set i ⟨num,dm,st,ln,nx,dZ,pk⟩) w w):=zH (by
  have e2:l.set i ⟨num,dm,st,ln,nx,dZ,pk⟩=l:=by
   apply Xt
   ·simp
   ·intro j h1 h2;rw[List.getElem_set];by_cases hij:i=j
    ·subst hij;rw[zj rfl,HT.out];simp[T.tr,h2]
    ·rw[zi hij]
  rw[e2];exact vH.out)
 obtain⟨q0,q1,q2,q3,q4,q5,q6⟩:=Oh (G9.out.q HI.out HO.out);dsimp only at q0 q1 q2 q3 q4 q5 q6;by_cases hs2:dZ=2
 ·have HR:Hid (I7 B g c (l.set i (lV M ⟨num,dm,st,ln,nx,dZ,pk⟩)) w w):=zH (by
   have e:lV M ⟨num,dm,st,ln,nx,dZ,pk⟩=⟨num,dm,st,ln,nx,dZ,pk⟩:=by unfold lV;rw[zj hs2]
   rw[e];exact G9.out)
  subst hs2;go_enter func163,ntmps163;go_wp2_with fail;refine zr (v:=.tuple #[]) (by simp[results,results163,go_sem]) rfl ?_;exact⟨rfl,HR.out⟩
 have hsd:decide (dZ=2)=false:=zf hs2;have hsq:(dZ == 2)=false:=Yc.2 hs2;have aiU:Hid (lV M ⟨num,dm,st,ln,nx,dZ,pk⟩=⟨num,dm,st,ln,mf M ⟨num,dm,st,ln,nx,dZ,pk⟩,if mf M ⟨num,dm,st,ln,nx,dZ,pk⟩=st then 0 else 1,pk⟩):=zH (by unfold lV;rw[zi hs2]);have HNX:Hid (mf M ⟨num,dm,st,ln,nx,dZ,pk⟩=if 0<pk then min (st+(ln:Int)) (st+((jo M st ln:Nat)+pk-1).tdiv pk*pk) else st+(jo M st ln:Nat)):=zH (by unfold mf;dsimp only;rw[Yw]);have hen:=w1 b1 b2 b3;clear b1 b2 b3 b4 b5 hs2 vH HT;go_enter func163,ntmps163;go_upto_region 1 with (fail)
 go_quiet (fail);have hS1:=G9.out.below (Below.drewN (zB w.heap.size w) nq);have HSd:=zH hS1;obtain⟨q0,q1,q2,q3,q4,q5,q6⟩:=Oh (hS1.q HI.out HO.out);have fg:=λk=>hS1.own.frozenAt k
 generalize w.drewN nq=wd at *;clear hS1
 go_upto_block 0 with fail
 rw[hen]
 go_cut [5,6] from 25 to 55 (λv5 v6 wx=>Hid (I7 B g c (l.set i ⟨num,dm,st,ln,st+(jo M st ln:Nat),dZ,pk⟩) w wx))
 case first=>
  go_wp2_with fail
  go_loopw [] (λwr=>∃k:Nat,k<=ln/\Hid (jo M st ln=jo M st k)/\Hid (I7 B g c (l.set i ⟨num,dm,st,ln,st+(k:Nat),dZ,pk⟩) w wr)) (λwr=>(RowKit.intOf ((wr.cell? ⟨g,o+4,none⟩).getD undef)-st).toNat)
  case atStart=>exact⟨ln,zl _,zH rfl,zH (HSd.out.upd HI.out HO.out 4 (by decide) _ rfl)⟩
  case round=>
   obtain⟨k,hk,HL,HSr⟩:=hrel;obtain⟨wo,rfl⟩:∃wo:World,wo=wr:=⟨_,rfl⟩;obtain⟨q0,q1,q2,q3,q4,q5,q6⟩:=Oh (HSr.out.q HI.out HO.out);have HQ:=zH q4;rcases k with _|k
   ·have q4':wo.cell? ⟨g,o+4,none⟩=some (.int .i64 st):=by rw[q4];simp
    clear q4;go_upto_region 3 with (fail)
    go_quiet (fail);have hS2:=HSr.out.below (Below.drewN (zB wo.heap.size wo) nq);generalize wo.drewN nq=w2 at *;go_wp2_with fail;go_meet;exact zH (by rw[HL.out];exact hS2)
   ·have hgt:st<st+((k+1:Nat):Int):=by omega
    have hy:=w2 (a:=st) (k:=k) HB.out.1 (by have:=HB.out.2.2.1;omega);obtain⟨CE,hnx⟩:∃n,n=st+((k+1:Nat):Int):=⟨_,rfl⟩;obtain⟨y,hyy⟩:∃n,n=st+((k:Nat):Int):=⟨_,rfl⟩;rw[<-hnx]at q4 hgt hy HQ;rw[<-hyy]at hy;have HNE:=zH hnx;have HYE:=zH hyy;have HKL:=zH hk;clear hnx hyy hk;go_upto_region 3 with (fail)
    go_quiet (fail);have hS2:=HSr.out.below (Below.drewN (zB wo.heap.size wo) nq);generalize wo.drewN nq=w2 at *;have HS2:=zH hS2;have hx:=ak6.out w2 hS2.gr;obtain⟨q0,q1,q2,q3,q4,q5,q6⟩:=Oh (hS2.q HI.out HO.out);rw[<-HNE.out]at q4;have hgl:=zc w2 _ q4;have hpl2:=zc w2 _ hx.1;have rZ:Hid (∀W,Below w2.heap.size w2 W->W.cell? ⟨p,2,none⟩=some (.pointer (some ⟨pm,0,none⟩))/\W.cell? ⟨g,o+4,none⟩=some (.int .i64 CE)):=zH λW hW=>⟨(hW.cell (p:=⟨p,2,none⟩) hpl2).trans hx.1,(hW.cell (p:=⟨g,o+4,none⟩) hgl).trans q4⟩
    obtain⟨s1,hs1⟩:∃s,s=(M.eF y).1:=⟨_,rfl⟩;obtain⟨s2,hs2⟩:∃s,s=(M.eF y).2:=⟨_,rfl⟩;have HST:Hid (∀W,Below w2.heap.size w2 W->Calls prog 68 #[.pointer (some ⟨pm,0,none⟩),.int .i64 y] W (ai4 (.tuple #[.int .i64 s1,.int .i64 s2]) W)):=zH λW hW=>by rw[hs1,hs2];exact(ak6.out W (hS2.below hW).gr).2 y
    have ak5:=zH hs1;clear hS2 hx q0 q1 q2 q3 q4 q5 q6 hgl hpl2 hs1 hs2;go_upto_region 4 with (fail)
    refine fP (by kernel_rfl) (λW W'=>Below W.heap.size W W') (λW=>Below w2.heap.size w2 W) (VW p pm g o CE y s1 s2) (λ_=>false) (by kernel_rfl) (λW W' hR h=>h.trans (hR.mono h.size)) (Tv p pm g o CE y s1 s2) ((zB _ _).drew) ⟨?_,?_,?_,?s3,?_,?_,?_,?s7,?s8,?s9,?_,?_,?_,?_,?_,trivial⟩ ?_;all_goals first
     | (intro a W hc hsz hold ah
        have o0:a.tmps.getD 0 undef=.pointer (some ⟨p,0,none⟩):=hold 0 (by kernel_rfl);have o1:a.tmps.getD 1 undef=.pointer (some ⟨g,o,none⟩):=hold 1 (by kernel_rfl);try have d0:=zV 35 (.pointer (some ⟨p,0,none⟩)) (ah 0 rfl rfl _ rfl)
        try have d1:=zV 36 (.pointer (some ⟨p,0,none⟩)) (ah 1 rfl rfl _ rfl)
        try have d4:=zV 39 (.pointer (some ⟨g,o,none⟩)) (ah 4 rfl rfl _ rfl)
        try have d5:=zV 40 (.pointer (some ⟨g,o,none⟩)) (ah 5 rfl rfl _ rfl)
        try have d9:=zV 44 (.tuple #[.int .i64 s1,.int .i64 s2]) (ah 9 rfl rfl _ rfl)
        try have d10:=zV 34 (.tuple #[.int .i64 s1,.int .i64 s2]) (ah 10 rfl rfl _ rfl)
        try have d11:=zV 45 (.int .i64 s1) (ah 11 rfl rfl _ rfl)
        try have d12:=zV 46 (.int .i64 s2) (ah 12 rfl rfl _ rfl)
        clear hsz hold ah;refine ai rfl (ag rfl) ?_;refine ak (zB _ _) rfl λK hK=>?_
        go_simp;exact hK)
     |skip
    try case s3=>
     intro a W hc hsz hold ah;have d2:=zV 37 (.pointer (some ⟨p,2,none⟩)) (ah 2 rfl rfl _ rfl);have z0:=(rZ.out W hc).1;clear hsz hold ah;refine ai rfl (ag rfl) ?_;refine ak (v:=.pointer (some ⟨pm,0,none⟩)) (zB _ _) rfl λK hK=>?_
     go_simp;exact hK
    try case s7=>
     intro a W hc hsz hold ah;have d6:=zV 41 (.pointer (some ⟨g,o+4,none⟩)) (ah 6 rfl rfl _ rfl);have z0:=(rZ.out W hc).2;clear hsz hold ah;refine ai rfl (ag rfl) ?_;refine ak (v:=.int .i64 CE) (zB _ _) rfl λK hK=>?_
     go_simp;exact hK
    try case s8=>
     intro a W hc hsz hold ah;have d7:=zV 42 (.int .i64 CE) (ah 7 rfl rfl _ rfl);clear hsz hold ah;refine ai rfl (ag rfl) ?_;refine ak (v:=.int .i64 y) (zB _ _) rfl λK hK=>?_
     have hw8:IntKind.i64.wrap (CE-1)=y:=(IntWalk.i64_left _).trans hy;go_simp;exact hK
    try case s9=>
     intro a W hc hsz hold ah;have d3:=zV 38 (.pointer (some ⟨pm,0,none⟩)) (ah 3 rfl rfl _ rfl);have e3:=zq d3;have d8:=zV 43 (.int .i64 y) (ah 8 rfl rfl _ rfl);have e8:=zq d8;clear hsz hold ah;refine ai rfl (ag rfl) ?_;refine eG (v:=.tuple #[.int .i64 s1,.int .i64 s2]) (λW' hb=>hb) (λ_=>rfl) λK hK=>?_
     go_simp;refine(HST.out W hc).mono ?_;rintro e w' ⟨rfl,hb'⟩;exact hK _ hb'
    ·intro a W hC hd hsz hold hval;have d5:a.tmps.getD 5 undef=.int .i64 s1:=hval 13 _ rfl rfl;have d6:a.tmps.getD 6 undef=.int .i64 s2:=hval 14 _ rfl rfl;obtain⟨G,hG,ha⟩:=dK [5,6,34,35,36,37,38,39,40,41,42,43,44,45,46] (by kernel_rfl) hd hsz hold;simp only[hG]at d5 d6;rw[ha];clear ha hG hd hsz hold;simp only[cZ,Ym,List.set,d5,d6];clear d5 d6;have hC:Below w2.heap.size w2 W:=hC;have hS3:=HS2.out.below hC;obtain⟨q0,q1,q2,q3,q4,q5,q6⟩:=Oh (hS3.q HI.out HO.out);rw[<-HNE.out]at q4;have fg:=λk=>hS3.own.frozenAt k
     have zY:=zH hS3;clear hS3 hC hval;by_cases h0:s1=0
     ·have HZ:=zH h0;have hd0:decide (s1=0)=true:=zt h0;have hq0:(s1 == 0)=true:=YG.2 h0;clear h0;go_wp2_with fail;go_roundw;case rel=>
       exact⟨k,by have:=HKL.out;omega,zH (HL.out.trans (Uu (by rw[<-HYE.out,<-ak5.out];exact HZ.out))),zH (zY.out.upd HI.out HO.out 4 (by decide) _ (by rw[HYE.out];rfl))⟩
      case measure=>
       have e1:=HNE.out;have e2:=HYE.out;have hn:=(Oh ((zY.out.upd HI.out HO.out (x':=⟨num,dm,st,ln,y,dZ,pk⟩) 4 (by decide) (.int .i64 y) rfl).q HI.out HO.out)).2.2.2.2.1;have hq:=HQ.out;first
        |(simp only[RowKit.intOf];omega)
        |(rw[hn,hq];simp only[RowKit.intOf,Option.getD_some];omega)
     ·have HZ:=zH h0;have hd0:decide (s1=0)=false:=zf h0;have hq0:(s1 == 0)=false:=Yc.2 h0;clear h0;go_wp2_with fail;go_meet;exact zH (by rw[HL.out,Ut (by rw[<-HYE.out,<-ak5.out];exact HZ.out)];exact zY.out)
 case rest=>
  have HSx:=hcut;obtain⟨na,ha⟩:∃a,a=jo M st ln:=⟨_,rfl⟩;have hal:na<=ln:=by rw[ha];exact Fa M st ln
  rw[<-ha]at HSx HNX;obtain⟨q0,q1,q2,q3,q4,q5,q6⟩:=Oh (HSx.out.q HI.out HO.out);obtain⟨rn,hrn⟩:∃n,n=mf M ⟨num,dm,st,ln,nx,dZ,pk⟩:=⟨_,rfl⟩;rw[<-hrn]at HNX aiU;obtain⟨en,Wq⟩:∃n,n=st+(ln:Int):=⟨_,rfl⟩;rw[<-Wq]at HNX;have HE:=zH Wq;have HAL:=zH hal;clear ha hal hrn;rw[<-Wq];clear Wq
  go_upto_if 60 with (fail)
  go_cut [] from 60 to 95 (λwx=>Hid (I7 B g c (l.set i ⟨num,dm,st,ln,rn,dZ,pk⟩) w wx))
  case first=>
   by_cases hp:0<pk
   ·obtain⟨p1,p2,p3,p4,p5,p6⟩:=pkn (a:=na) HB.out.1 HB.out.2.1 HB.out.2.2.1 hp HB.out.2.2.2.2 (by have:=HAL.out;omega);have hz0:rn=min en (st+((na:Int)+pk-1).tdiv pk*pk):=by rw[HNX.out,zj hp]
    have hp0:pk≠0:=by omega
    have hpd:decide (0<pk)=true:=zt hp;obtain⟨e2,he2⟩:∃n,n=(na:Int)+pk:=⟨_,rfl⟩;obtain⟨e3,he3⟩:∃n,n=(na:Int)+pk-1:=⟨_,rfl⟩;obtain⟨e4,he4⟩:∃n,n=((na:Int)+pk-1).tdiv pk:=⟨_,rfl⟩;obtain⟨e5,he5⟩:∃n,n=((na:Int)+pk-1).tdiv pk*pk:=⟨_,rfl⟩;obtain⟨e6,he6⟩:∃n,n=st+((na:Int)+pk-1).tdiv pk*pk:=⟨_,rfl⟩;obtain⟨CE,hnx⟩:∃n,n=st+(na:Int):=⟨_,rfl⟩;have P1:wrap64 (CE-st)=(na:Nat):=by rw[hnx];exact p1
    have P2:wrap64 ((na:Nat)+pk)=e2:=by rw[he2];exact p2
    have P3:wrap64 (e2-1)=e3:=by rw[he2,he3];exact p3
    have P4:wrap64 (e3.tdiv pk)=e4:=by rw[he3,he4];exact p4
    have P5:wrap64 (e4*pk)=e5:=by rw[he4,he5];exact p5
    have P6:wrap64 (st+e5)=e6:=by rw[he5,he6];exact p6
    have hz:rn=min en e6:=by rw[he6];exact hz0
    rw[<-hnx]at q4;clear hz0 he6 he5 he4 he3 he2 hnx p1 p2 p3 p4 p5 p6;have HZ:=zH hz;rw[zt hp];go_upto_region 8 with (fail)
    have HQ4:Hid (wc.drew.cell? ⟨g,o+4,none⟩=some (.int .i64 CE)):=zH q4;have HQF:Hid (∀k,wc.drew.frozen? ⟨g,k,none⟩=false):=zH λk=>HSx.out.own.frozenAt k
    have rZ:Hid (∀r W,r<=0->ajm wc.drew (wc.drew.setCell ⟨g,o+4,none⟩ (.int .i64 rn)) r W->W.cell? ⟨g,o+2,none⟩=some (.int .i64 st)/\W.cell? ⟨g,o+4,none⟩=some (.int .i64 CE)/\W.cell? ⟨g,o+6,none⟩=some (.int .i64 pk)):=zH λr W hr h=>by obtain rfl:r=0:=Nat.le_zero.1 hr;rw[show W=wc.drew from h];exact⟨q2,q4,q6⟩
    have HSD:=zH (HSx.out.below ((zB wc.heap.size wc).drew));clear q0 q1 q2 q3 q4 q5 q6 hz;refine lq (by kernel_rfl) (OB) (ajm wc.drew (wc.drew.setCell ⟨g,o+4,none⟩ (.int .i64 rn))) (VX g o na en st CE pk e2 e3 e4 e5 e6 rn) (λ_=>false) acz 1 (by kernel_rfl) (by kernel_rfl) (.inl (by kernel_rfl)) (Tz g o na en st CE pk e2 e3 e4 e5 e6 rn) (rfl) ⟨?_,?_,?_,?_,?_,?s5,?_,?_,?_,?s9,?_,?_,?_,?s13,?s14,?_,?_,?_,?s18,?s19,?s20,?_,?_,?_,?s24,?s25,?_,?_,?_,?s29,?s30,?s31,?s32,?_,?_,?s35,trivial⟩ ?_;all_goals first
     | (intro r a W hc hsz hold ah hnot hlo hhi hrk
        have o1:a.tmps.getD 1 undef=.pointer (some ⟨g,o,none⟩):=hold 1 (by kernel_rfl);have o4:a.tmps.getD 4 undef=.int .i64 en:=hold 4 (by kernel_rfl);try have d0:=zV 61 (.pointer (some ⟨g,o,none⟩)) (ah 0 rfl rfl _ rfl)
        try have d2:=zV 63 (.pointer (some ⟨g,o,none⟩)) (ah 2 rfl rfl _ rfl)
        try have d3:=zV 64 (.pointer (some ⟨g,o,none⟩)) (ah 3 rfl rfl _ rfl)
        try have d6:=zV 67 (.pointer (some ⟨g,o,none⟩)) (ah 6 rfl rfl _ rfl)
        try have d7:=zV 68 (.pointer (some ⟨g,o,none⟩)) (ah 7 rfl rfl _ rfl)
        try have d10:=zV 71 (.pointer (some ⟨g,o,none⟩)) (ah 10 rfl rfl _ rfl)
        try have d11:=zV 72 (.pointer (some ⟨g,o,none⟩)) (ah 11 rfl rfl _ rfl)
        try have d15:=zV 76 (.pointer (some ⟨g,o,none⟩)) (ah 15 rfl rfl _ rfl)
        try have d16:=zV 77 (.pointer (some ⟨g,o,none⟩)) (ah 16 rfl rfl _ rfl)
        try have d21:=zV 82 (.pointer (some ⟨g,o,none⟩)) (ah 21 rfl rfl _ rfl)
        try have d22:=zV 83 (.pointer (some ⟨g,o,none⟩)) (ah 22 rfl rfl _ rfl)
        try have d26:=zV 87 (.pointer (some ⟨g,o,none⟩)) (ah 26 rfl rfl _ rfl)
        try have d27:=zV 88 (.pointer (some ⟨g,o,none⟩)) (ah 27 rfl rfl _ rfl)
        try have d33:=zV 94 (.pointer (some ⟨g,o,none⟩)) (ah 33 rfl rfl _ rfl)
        clear hsz hold ah hnot hlo hhi hrk;refine ai rfl (ag rfl) ?_;refine aG (bG _ _ _) hc rfl λK hK=>?_
        go_simp;exact hK)
     |skip
    try case s5=>
     intro r a W hc hsz hold ah hnot hlo hhi hrk;have d4:=zV 65 (.pointer (some ⟨g,o+2,none⟩)) (ah 4 rfl rfl _ rfl);have hb:=hhi 35 0 rfl (by kernel_rfl);obtain⟨z2,z4,z6⟩:=rZ.out r W hb hc;clear hsz hold ah hnot hlo hhi hrk;refine ai rfl (ag rfl) ?_;refine aG (v:=.int .i64 st) (bG _ _ _) hc rfl λK hK=>?_
     go_simp;exact hK
    try case s9=>
     intro r a W hc hsz hold ah hnot hlo hhi hrk;have d8:=zV 69 (.pointer (some ⟨g,o+4,none⟩)) (ah 8 rfl rfl _ rfl);have hb:=hhi 35 0 rfl (by kernel_rfl);obtain⟨z2,z4,z6⟩:=rZ.out r W hb hc;clear hsz hold ah hnot hlo hhi hrk;refine ai rfl (ag rfl) ?_;refine aG (v:=.int .i64 CE) (bG _ _ _) hc rfl λK hK=>?_
     go_simp;exact hK
    try case s13=>
     intro r a W hc hsz hold ah hnot hlo hhi hrk;have d12:=zV 73 (.pointer (some ⟨g,o+2,none⟩)) (ah 12 rfl rfl _ rfl);have hb:=hhi 35 0 rfl (by kernel_rfl);obtain⟨z2,z4,z6⟩:=rZ.out r W hb hc;clear hsz hold ah hnot hlo hhi hrk;refine ai rfl (ag rfl) ?_;refine aG (v:=.int .i64 st) (bG _ _ _) hc rfl λK hK=>?_
     go_simp;exact hK
    try case s14=>
     intro r a W hc hsz hold ah hnot hlo hhi hrk;have d9:=zV 70 (.int .i64 CE) (ah 9 rfl rfl _ rfl);have d13:=zV 74 (.int .i64 st) (ah 13 rfl rfl _ rfl);clear hsz hold ah hnot hlo hhi hrk;refine ai rfl (ag rfl) ?_;refine aG (v:=.int .i64 (na:Nat)) (bG _ _ _) hc rfl λK hK=>?_
     have hw8:IntKind.i64.wrap (CE-st)=(na:Nat):=(IntWalk.i64_left _).trans P1;go_simp;exact hK
    try case s18=>
     intro r a W hc hsz hold ah hnot hlo hhi hrk;have d17:=zV 78 (.pointer (some ⟨g,o+6,none⟩)) (ah 17 rfl rfl _ rfl);have hb:=hhi 35 0 rfl (by kernel_rfl);obtain⟨z2,z4,z6⟩:=rZ.out r W hb hc;clear hsz hold ah hnot hlo hhi hrk;refine ai rfl (ag rfl) ?_;refine aG (v:=.int .i64 pk) (bG _ _ _) hc rfl λK hK=>?_
     go_simp;exact hK
    try case s19=>
     intro r a W hc hsz hold ah hnot hlo hhi hrk;have d14:=zV 75 (.int .i64 (na:Nat)) (ah 14 rfl rfl _ rfl);have d18:=zV 79 (.int .i64 pk) (ah 18 rfl rfl _ rfl);clear hsz hold ah hnot hlo hhi hrk;refine ai rfl (ag rfl) ?_;refine aG (v:=.int .i64 e2) (bG _ _ _) hc rfl λK hK=>?_
     have hw8:IntKind.i64.wrap ((na:Nat)+pk)=e2:=(IntWalk.i64_left _).trans P2;go_simp;exact hK
    try case s20=>
     intro r a W hc hsz hold ah hnot hlo hhi hrk;have d19:=zV 80 (.int .i64 e2) (ah 19 rfl rfl _ rfl);clear hsz hold ah hnot hlo hhi hrk;refine ai rfl (ag rfl) ?_;refine aG (v:=.int .i64 e3) (bG _ _ _) hc rfl λK hK=>?_
     have hw8:IntKind.i64.wrap (e2-1)=e3:=(IntWalk.i64_left _).trans P3;go_simp;exact hK
    try case s24=>
     intro r a W hc hsz hold ah hnot hlo hhi hrk;have d23:=zV 84 (.pointer (some ⟨g,o+6,none⟩)) (ah 23 rfl rfl _ rfl);have hb:=hhi 35 0 rfl (by kernel_rfl);obtain⟨z2,z4,z6⟩:=rZ.out r W hb hc;clear hsz hold ah hnot hlo hhi hrk;refine ai rfl (ag rfl) ?_;refine aG (v:=.int .i64 pk) (bG _ _ _) hc rfl λK hK=>?_
     go_simp;exact hK
    try case s25=>
     intro r a W hc hsz hold ah hnot hlo hhi hrk;have d20:=zV 81 (.int .i64 e3) (ah 20 rfl rfl _ rfl);have d24:=zV 85 (.int .i64 pk) (ah 24 rfl rfl _ rfl);clear hsz hold ah hnot hlo hhi hrk;refine ai rfl (ag rfl) ?_;refine aG (v:=.int .i64 e4) (bG _ _ _) hc rfl λK hK=>?_
     have hw8:IntKind.i64.wrap (e3.tdiv pk)=e4:=(IntWalk.i64_left _).trans P4;go_simp;exact hK
    try case s29=>
     intro r a W hc hsz hold ah hnot hlo hhi hrk;have d28:=zV 89 (.pointer (some ⟨g,o+6,none⟩)) (ah 28 rfl rfl _ rfl);have hb:=hhi 35 0 rfl (by kernel_rfl);obtain⟨z2,z4,z6⟩:=rZ.out r W hb hc;clear hsz hold ah hnot hlo hhi hrk;refine ai rfl (ag rfl) ?_;refine aG (v:=.int .i64 pk) (bG _ _ _) hc rfl λK hK=>?_
     go_simp;exact hK
    try case s30=>
     intro r a W hc hsz hold ah hnot hlo hhi hrk;have d25:=zV 86 (.int .i64 e4) (ah 25 rfl rfl _ rfl);have d29:=zV 90 (.int .i64 pk) (ah 29 rfl rfl _ rfl);clear hsz hold ah hnot hlo hhi hrk;refine ai rfl (ag rfl) ?_;refine aG (v:=.int .i64 e5) (bG _ _ _) hc rfl λK hK=>?_
     have hw8:IntKind.i64.wrap (e4*pk)=e5:=(IntWalk.i64_left _).trans P5;go_simp;exact hK
    try case s31=>
     intro r a W hc hsz hold ah hnot hlo hhi hrk;have d5:=zV 66 (.int .i64 st) (ah 5 rfl rfl _ rfl);have d30:=zV 91 (.int .i64 e5) (ah 30 rfl rfl _ rfl);clear hsz hold ah hnot hlo hhi hrk;refine ai rfl (ag rfl) ?_;refine aG (v:=.int .i64 e6) (bG _ _ _) hc rfl λK hK=>?_
     have hw8:IntKind.i64.wrap (st+e5)=e6:=(IntWalk.i64_left _).trans P6;go_simp;exact hK
    try case s32=>
     intro r a W hc hsz hold ah hnot hlo hhi hrk;have d1:=zV 62 (.int .i64 en) (ah 1 rfl rfl _ rfl);have e1:=zq d1;have d31:=zV 92 (.int .i64 e6) (ah 31 rfl rfl _ rfl);have e31:=zq d31;clear hsz hold ah hnot hlo hhi hrk;refine ai rfl (ag rfl) ?_;refine aG (v:=.int .i64 rn) (bG _ _ _) hc rfl λK hK=>?_
     have hmn:=HZ.out;rw[hmn]at hK;go_simp;exact hK
    try case s35=>
     intro r a W hc hsz hold ah hnot hlo hhi hrk;have hr:=hrk 0 rfl;subst hr;have d34:=zV 95 (.pointer (some ⟨g,o+4,none⟩)) (ah 34 rfl rfl _ rfl);have d32:=zV 93 (.int .i64 rn) (ah 32 rfl rfl _ rfl);clear hsz hold ah hnot hlo hhi hrk;refine ai rfl (ag rfl) ?_;replace hc:W=wc.drew:=hc;subst hc;have z4:=HQ4.out;have zf:=HQF.out;refine iy (v:=undef) (w':=wc.drew.setCell ⟨g,o+4,none⟩ (.int .i64 rn)) (bG _ _ _) (show ajm _ _ 1 _ from rfl) trivial λK hK=>?_
     go_simp;exact hK
    ·intro a W hC hd hsz hold hval;obtain⟨G,hG,ha⟩:=dK [61,62,63,64,65,66,67,68,69,70,71,72,73,74,75,76,77,78,79,80,81,82,83,84,85,86,87,88,89,90,91,92,93,94,95] (by kernel_rfl) hd hsz hold;rw[ha];clear ha hG hd hsz hold;simp only[cZ,Ym,List.set];replace hC:W=wc.drew.setCell ⟨g,o+4,none⟩ (.int .i64 rn):=hC;subst hC;go_wp2_with fail;go_meet;exact zH (HSD.out.upd HI.out HO.out 4 (by decide) _ rfl)
   ·have hpd:decide (0<pk)=false:=zf hp;have hz:rn=st+(na:Int):=by rw[HNX.out,zi hp]
    rw[zf hp];go_wp2_with fail;go_meet;exact zH (by rw[hz];exact HSx.out)
  case rest=>
   have HSy:=hcut;obtain⟨q0,q1,q2,q3,q4,q5,q6⟩:=Oh (HSy.out.q HI.out HO.out);have fg:=λk=>HSy.out.own.frozenAt k
   go_upto_region 10 with (fail)
   have hS5:=HSy.out.upd HI.out HO.out (x':=⟨num,dm,st,ln,rn,1,pk⟩) 5 (by decide) (.int .i64 1) rfl;generalize wc.setCell ⟨g,o+5,none⟩ (.int .i64 1)=w5 at *;clear q0 q1 q2 q3 q4 q5 q6;obtain⟨q0,q1,q2,q3,q4,q5,q6⟩:=Oh (hS5.q HI.out HO.out);have KE:=zH hS5;clear hS5;go_quiet (fail);have hS6:=KE.out.below (Below.drewN (zB w5.heap.size w5) nq);generalize w5.drewN nq=w6 at *;clear q0 q1 q2 q3 q4 q5 q6;obtain⟨q0,q1,q2,q3,q4,q5,q6⟩:=Oh (hS6.q HI.out HO.out);have fg:=λk=>hS6.own.frozenAt k
   have zZ:=zH hS6;clear hS6;by_cases hr:rn=st
   ·have hrd:decide (rn=st)=true:=zt hr;have hrq:(rn == st)=true:=YG.2 hr;have HR:=zH hr;clear hr;go_wp2_with fail;go_end0;refine⟨rfl,?_⟩;rw[aiU.out,zj HR.out];exact zZ.out.upd HI.out HO.out 5 (by decide) _ rfl
   ·have hrd:decide (rn=st)=false:=zf hr;have hrq:(rn == st)=false:=Yc.2 hr;have HR:=zH hr;clear hr;go_wp2_with fail;go_end0;refine⟨rfl,?_⟩;rw[aiU.out,zi HR.out];exact zZ.out
structure kF (D:PD) (N:Nat):Prop where
 ok:D.Ok N
 md:gG D.M
 n:D.M.n=D.n
 fin:D.fin=true->D.ca = []
structure Nx (D D':PD):Prop where
 mono:nz D.M D'.M
 n:D'.n=D.n
 fin:D.fin=true->D'.M=D.M
theorem Nx.refl(D:PD):Nx D D:=⟨nz.refl _,rfl,λ_=>rfl⟩
theorem kF.up{D:PD}{N K:Nat}(h:kF D N)(hk:N<=K):kF D K:=⟨⟨h.ok.kind,h.ok.md.mono hk,h.ok.v,h.ok.a,h.ok.b,h.ok.ca,h.ok.n64⟩,h.md,h.n,h.fin⟩
theorem acW{M:aA}{N:Nat}(h:M.Ok N)(l:List (Int×List UInt8)):(kM M l).1.Ok (N+l.length):=by
 have key:∀(l:List (Int×List UInt8))(q:aA×Int×Bool)(N:Nat),q.1.Ok N->(l.foldl (TV vN) q).1.Ok (N+l.length):=by
  intro l
  induction l with
  |nil=>intro q N h1;exact h1
  | cons x l ih=>
    intro q N h1;rw[Ve,Yn];have e:(TV vN q x).1=(T7.uy q.1 x).2:=by unfold TV vN;split <;> rfl
    have:=ih (TV vN q x) (N+1) (by rw[e];exact h1.record _ _);rwa[show N+1+l.length=N+(l.length+1) by omega]at this
 exact key l _ N h
theorem We(M:aA):(kM M []).1=M:=rfl
theorem kF.ca8{D:PD}{N:Nat}(h:kF D N):∀x∈D.ca,x.2.length=2048:=λx hx=>(h.ok.ca x hx).2.2
theorem kF.flush{D:PD}{N:Nat}(h:kF D N):kF {D with M:=(kM D.M D.ca).1,ca:=[]} (N+64)/\Nx D {D with M:=(kM D.M D.ca).1,ca:=[] }:=by obtain⟨h1,h2⟩:=h.md.kM D.ca h.ca8;refine⟨⟨h.ok.flush ((acW h.ok.md D.ca).mono (by have:=h.ok.n64;omega)),h1,h2.1.trans h.n,λ_=>rfl⟩,⟨h2,rfl,λhf=>?_⟩⟩;show(kM D.M D.ca).1=D.M;rw[h.fin hf,We]
theorem kF.sav{D:PD}{N:Nat}(h:kF D N):kF (qK D) N/\Nx D (qK D):=⟨⟨h.ok.sav,h.md,h.n,h.fin⟩,⟨nz.refl _,rfl,λ_=>rfl⟩⟩
theorem Nx.trans{a b c:PD}(h:Nx a b)(g:Nx b c)(hf:a.fin=true->b.fin=true):Nx a c:=⟨h.mono.trans g.mono,g.n.trans h.n,λe=>(g.fin (hf e)).trans (h.fin e)⟩
theorem kF.syn{D:PD}{N:Nat}(h:kF D N):kF (vO D) (N+64)/\Nx D (vO D):=by obtain⟨h1,h2⟩:=h.flush;obtain⟨h3,h4⟩:=h1.sav;exact⟨h3,h2.trans h4 λe=>e⟩
theorem kF.chg{D:PD}{N:Nat}(h:kF D N){cl:Int}{fin:Bool}{l:List T.ax}(hv:T.aK D.n cl fin l):kF (ZI D cl fin l) (N+64)/\Nx D (ZI D cl fin l):=by obtain⟨h1,h2⟩:=h.syn;have h3:kF ((vO D).zA cl fin l) (N+64):=⟨h1.ok.zA hv,h1.md,h1.n,λ_=>rfl⟩;exact⟨h3.sav.1,⟨h2.mono,h2.n,h2.fin⟩⟩
theorem Fz{D:PD}{N:Nat}(h:kF D N)(K:Int->Int)(r:je)(hs:r.code=0->T.Step D.n D.cl D.fin D.tr r.cl r.fin r.l):kF (Qv K r D).2 (N+64)/\Nx D (Qv K r D).2:=by
 unfold Qv;by_cases h0:r.code=0
 ·rw[zj h0];exact h.chg ((hs h0).valid h.ok.v)
 ·rw[zi h0];exact⟨h.up (by omega),Nx.refl D⟩
def agP(c:Int):Int:=if c=15 then 5 else if c=1 then 4 else 7
def kCt(c:Int):Int:=if c=6 then 4 else 1
def kCs(c:Int):Int:=if c=15 then 5 else 1
theorem Rh{D:PD}{N:Nat}(h:kF D N)(cnt pk:Int):(bZ D.n D.cl D.fin D.tr cnt pk).code=0->T.Step D.n D.cl D.fin D.tr (bZ D.n D.cl D.fin D.tr cnt pk).cl (bZ D.n D.cl D.fin D.tr cnt pk).fin (bZ D.n D.cl D.fin D.tr cnt pk).l:=(lD h.ok.v 0 cnt pk false).ok
theorem ahP{D:PD}{N:Nat}(h:kF D N)(k:Int):(iJ D.n D.cl D.fin D.tr k).code=0->T.Step D.n D.cl D.fin D.tr (iJ D.n D.cl D.fin D.tr k).cl (iJ D.n D.cl D.fin D.tr k).fin (iJ D.n D.cl D.fin D.tr k).l:=(lD h.ok.v 2 k 0 false).ok
theorem ahO{D:PD}{N:Nat}(h:kF D N)(fz:Bool):(jy D.n D.cl D.fin D.tr fz).code=0->T.Step D.n D.cl D.fin D.tr (jy D.n D.cl D.fin D.tr fz).cl (jy D.n D.cl D.fin D.tr fz).fin (jy D.n D.cl D.fin D.tr fz).l:=(lD h.ok.v 3 0 0 fz).ok
theorem ag6{D:PD}{N:Nat}(h:kF D N)(cnt pk:Int):OpG D (bZ D.n D.cl D.fin D.tr cnt pk) agP (qG (qG (qG (qG (λ_=>none) 15 (.int .i64 5)) 1 (.int .i64 4)) 7 (.int .i64 7)) 12 (.int .i64 7)):=by
 have hs:=Rh h cnt pk;have hc:(bZ D.n D.cl D.fin D.tr cnt pk).code=0\/(bZ D.n D.cl D.fin D.tr cnt pk).code=1\/(bZ D.n D.cl D.fin D.tr cnt pk).code=7\/(bZ D.n D.cl D.fin D.tr cnt pk).code=12\/(bZ D.n D.cl D.fin D.tr cnt pk).code=15:=by
  unfold bZ;repeat (split;· simp[je.bad])
  simp
 generalize bZ D.n D.cl D.fin D.tr cnt pk=r at *;refine⟨hs,λh0=>?_,by omega,by omega⟩;rcases hc with e|e|e|e|e
 ·exact absurd e h0
 all_goals (rw[e];rfl)
theorem ahZ{D:PD}{N:Nat}(h:kF D N){aj:Int}{L:List (List UInt8)}(hg:VA L)(h0:(aW D.n D.cl D.fin D.tr aj L.length).code=0):∀x∈oJ aj L L.length,Zl x:=by
 obtain⟨k,hk,h1,h2,h3,h4,_⟩:=(lD h.ok.v 1 aj L.length false).app h0 rfl;have ha:=T.aK.at h.ok.v hk;have hn:=h.ok.v.2.1;intro x hx;unfold oJ at hx;rw[YW]at hx;obtain⟨i,hi,rfl⟩:=hx;rw[Yx]at hi;refine⟨by dsimp only;omega,by dsimp only;omega,?_⟩;dsimp only;cases hp:nT 2048 (aJ [] L i) with
 |true=>have:=KP hi hp;rw[hg.2.2]at this;cases this
 |false=>simpa[nT]using hp
theorem afz{cap cl:Int}{fin:Bool}{l:List T.ax}{aj n:Int}(h0:(aW cap cl fin l aj n).code=0):(aW cap cl fin l aj n).fin=fin:=by
 revert h0;unfold aW;split
 ·intro h;exact absurd h (by simp[je.bad])
 ·split
  ·intro h;exact absurd h (by simp[je.bad])
  ·split
   ·intro h;exact absurd h (by simp[je.bad])
   ·split
    ·intro h;exact absurd h (by simp[je.bad])
    ·intro _;rfl
theorem afd{D:PD}{N:Nat}(h:kF D N){n:Nat}(hn:n<=64):kF (GG n D).2 (N+64)/\Nx D (GG n D).2/\(GG n D).2.ca.length+n<=64/\(GG n D).2.fin=D.fin/\(GG n D).2.n=D.n:=by
 unfold GG;by_cases h6:64<D.ca.length+n
 ·rw[zj h6];obtain⟨h1,h2⟩:=h.flush;exact⟨h1,h2,by simpa using hn,rfl,rfl⟩
 ·rw[zi h6];exact⟨h.up (by omega),Nx.refl D,by dsimp only;omega,rfl,rfl⟩
theorem afe{D:PD}{N:Nat}(h:kF D N)(aj:Int)(L:List (List UInt8)):kF (RI aj L (aW D.n D.cl D.fin D.tr aj L.length) D).2 (N+64)/\Nx D (RI aj L (aW D.n D.cl D.fin D.tr aj L.length) D).2:=by
 have hb:kF D (N+64)/\Nx D D:=⟨h.up (by omega),Nx.refl D⟩;by_cases hg:VA L;case neg=>rw[aiz hg];exact hb
 cases hf:D.fin with
 |true=>rw[aiy hg hf];exact hb
 | false=>
   have hw:=ahZ h (aj:=aj) hg;have ha:=afz (cap:=D.n) (cl:=D.cl) (fin:=D.fin) (l:=D.tr) (aj:=aj) (n:=L.length);have hst:=(lD h.ok.v 1 aj L.length false).ok;rw[show doR D.n D.cl D.fin D.tr 1 aj L.length false=aW D.n D.cl D.fin D.tr aj L.length from rfl]at hst;rw[hf]at hw ha hst;generalize aW D.n D.cl false D.tr aj L.length=r at *;rw[Zj hg hf];by_cases h0:r.code=0
   ·rw[zj h0];obtain⟨m1,m2,m3,m4,m5⟩:=afd h hg.2.1;have hv:=(hst h0).valid (by rw[<-hf];exact h.ok.v);refine⟨⟨⟨m1.ok.kind,m1.ok.md,?_,m1.ok.a,m1.ok.b,?_,?_⟩,m1.md,m1.n,λe=>?_⟩,⟨m2.mono,m2.n,m2.fin⟩⟩
    ·show T.aK (GG L.length D).2.n r.cl r.fin r.l;rw[m5];exact hv
    ·intro x hx;rcases YX.1 (show x∈(GG L.length D).2.ca++oJ aj L L.length from hx) with h1|h1
     ·exact m1.ok.ca x h1
     ·exact hw h0 x h1
    ·show((GG L.length D).2.ca++oJ aj L L.length).length<=64;rw[Yb,Rq];exact m3
    ·have e':r.fin=true:=e;rw[ha h0]at e';cases e'
   ·rw[zi h0];split
    ·exact hb
    ·split <;> exact hb
def alk(a:Int)(l:List (Int×List UInt8)):Option (List UInt8):=l.foldl (λo x=>if x.1=a then some x.2 else o) none
noncomputable def rdB(D:PD)(a:Int):List UInt8:=match alk a D.ca with
 |some d=>d
 |none=>Jq D.M a.toNat
noncomputable def amN(D:PD)(aj:Int):Nat->Nat->List (List UInt8)->Rp
 |_,0,out=>⟨0,0,out,0,false,[]⟩
 |i,k+1,out=>if rdB D (aj+(i:Nat)) = [] then Rp.sense 6 (aj+(i:Nat)) else if rdB D (aj+(i:Nat)) = [33] then Rp.sense 2 (aj+(i:Nat)) else amN D aj (i+1) k (out++[rdB D (aj+(i:Nat))])
noncomputable def rdZ(aj cnt:Int)(D:PD):Rp:=if aj<0\/cnt<1\/(D.n:Int)<cnt\/(D.n:Int)-cnt<aj then Rp.sense 4 0 else amN D aj 0 cnt.toNat []
noncomputable def BO(k:Nat)(D:PD):aA:=if k<D.ca.length then((kM D.M (D.ca.take k)).1.uA (aJ N9 D.ca k).1).2 else(kM D.M (D.ca.take k)).1
noncomputable def pwP(k:Nat)(D:PD):PD:=({D with M:=BO k D,ca:=[] }:PD).zA (E1.lZ D.n D.sA D.sB).1.cl (E1.lZ D.n D.sA D.sB).1.fin (yQ (BO k D) (E1.lZ D.n D.sA D.sB).1.l)
noncomputable def pwD(k:Nat)(D:PD):PD:=qK (pwP k D)
noncomputable def UW(cnt:Int)(D:PD):Rp×PD:=if cnt<0 then(Rp.sense 4 0,D) else(Rp.ok,pwD (min cnt.toNat D.ca.length) D)
theorem FW{D:PD}{N:Nat}(h:kF D N)(k:Nat):gG (BO k D)/\nz D.M (BO k D)/\(BO k D).Ok (N+65)/\(D.fin=true->BO k D=D.M):=by
 have h8:∀x∈D.ca.take k,x.2.length=2048:=λx hx=>h.ca8 x (List.mem_of_mem_take hx)
 obtain⟨h1,h2⟩:=h.md.kM (D.ca.take k) h8;have hok:=acW h.ok.md (D.ca.take k);have hle:(D.ca.take k).length<=64:=zT (by simp;omega) h.ok.n64;unfold BO;by_cases hk:k<D.ca.length
 ·rw[zj hk];obtain⟨h3,h4⟩:=h1.uA (aJ N9 D.ca k).1;exact⟨h3,h2.trans h4,(hok.uA _).mono (by omega),λhf=>by rw[h.fin hf]at hk;simp at hk⟩
 ·rw[zi hk];exact⟨h1,h2,hok.mono (by omega),λhf=>by rw[h.fin hf,List.take_nil,We]⟩
theorem aeo{D:PD}{N:Nat}(h:kF D N)(k:Nat):kF (pwP k D) (N+65):=by obtain⟨h1,h2,h3,h4⟩:=FW h k;have hv:=Ff h.ok.v.1 h.ok.v.2.1 D.sA D.sB;exact⟨⟨h.ok.kind,h3,U1 hv,h.ok.a,h.ok.b,λx hx=>(by cases hx),Xx _⟩,h1,h2.1.trans h.n,λ_=>rfl⟩
theorem QS{D:PD}{N:Nat}(h:kF D N)(k:Nat):kF (pwD k D) (N+65)/\Nx D (pwD k D):=by obtain⟨h1,h2,h3,h4⟩:=FW h k;exact⟨(aeo h k).sav.1,⟨h2,rfl,h4⟩⟩
noncomputable def nI(k aj cnt bP pk:Int)(L:List (List UInt8))(D:PD):Rp×PD:=
 if k=0 then(rdZ aj cnt D,D) else if k=1 then RI aj L (aW D.n D.cl D.fin D.tr aj L.length) D else if k=2 then(zy D,vO D)
 else if k=3 then Qv agP (bZ D.n D.cl D.fin D.tr cnt pk) D else if k=4 then Qv kCt (iJ D.n D.cl D.fin D.tr bP) D else if k=5 then Qv kCs (jy D.n D.cl D.fin D.tr (decide (cnt=1))) D
 else if k=6 then(Rp.sense 5 0,D) else if k=7 then(⟨0,0,[],D.cl,D.fin,D.tr⟩,D) else if k=8 then UW cnt D else(Rp.sense 4 0,D)
theorem xZ{D:PD}{N:Nat}(h:kF D N)(k aj cnt bP pk:Int)(L:List (List UInt8)):kF (nI k aj cnt bP pk L D).2 (N+65)/\Nx D (nI k aj cnt bP pk L D).2:=by
 have hb:kF D (N+65)/\Nx D D:=⟨h.up (by omega),Nx.refl D⟩;have up:∀{D':PD},kF D' (N+64)/\Nx D D'->kF D' (N+65)/\Nx D D':=λh=>⟨h.1.up (by omega),h.2⟩
 unfold nI;split
 ·exact hb
 split
 ·exact up (afe h aj L)
 split
 ·exact up h.syn
 split
 ·exact up (Fz h _ _ (Rh h cnt pk))
 split
 ·exact up (Fz h _ _ (ahP h bP))
 split
 ·exact up (Fz h _ _ (ahO h _))
 split
 ·exact hb
 split
 ·exact hb
 split
 ·unfold UW;split
  ·exact hb
  ·exact QS h _
 ·exact hb
theorem QU{W W':World}{p pm:Nat}{kind n cl0:Int}{fin0:Bool}{t0 vc v:Value}{SA SB:ByteArray}{l:List T.ax}(hbx:Bx W p 101 (kG kind n pm none cl0 fin0 t0 SA SB vc))(h:bQ W v l)(hs:W.heap.size<=W'.heap.size)(hk:∀b,b<W.heap.size->b≠p->W'.heap[b]? = W.heap[b]?):bQ W' v l:=by
 cases l with
 | nil=>
   obtain⟨a,c,rfl,_⟩:=dU.form h;exact dU.empty _ _ _ _ _
 | cons x r=>
   refine jZ h λk hv=>hk k (UY h (by simp) k hv) ?_
   rintro rfl;obtain⟨a,c,b,off,rfl,hac,hcell⟩:=h;obtain⟨ha,hr⟩:=hcell 0 (by simp);subst ha;obtain rfl:b=k:=zs hv;have key:∀j,j<7->∃y:Int,W.cell? ⟨b,off+0*7+j,none⟩=some (.int .i64 y):=λj hj=>by
    match j,hj with
    |0,_=>exact⟨_,hr 0 _ rfl⟩
    |1,_=>exact⟨_,hr 1 _ rfl⟩
    |2,_=>exact⟨_,hr 2 _ rfl⟩
    |3,_=>exact⟨_,hr 3 _ rfl⟩
    |4,_=>exact⟨_,hr 4 _ rfl⟩
    |5,_=>exact⟨_,hr 5 _ rfl⟩
    |6,_=>exact⟨_,hr 6 _ rfl⟩
   have c3:=hbx.cell (i:=3) rfl;by_cases h3:off<=3
   ·obtain⟨y,hy⟩:=key (3-off) (by omega);rw[show off+0*7+(3-off)=3 by omega]at hy;rw[hy]at c3;cases c3
   ·by_cases h6:off<=6
    ·have c6:=hbx.cell (i:=7) rfl;obtain⟨y,hy⟩:=key (7-off) (by omega);rw[show off+0*7+(7-off)=7 by omega]at hy;rw[hy]at c6;cases c6
    ·obtain⟨y,hy⟩:=key 6 (by omega);have hb:W.heap[b]? = some (.cells (kG kind n pm none cl0 fin0 t0 SA SB vc).toArray 101):=hbx;have hi:(kG kind n pm none cl0 fin0 t0 SA SB vc).toArray[off+0*7+6]? = none:=by rw[Array.getElem?_eq_none_iff];show 10<=_;omega
     simp[World.cell?,hb,hi]at hy
def DK(p pm:Nat)(kind n:Int)(SA SB:ByteArray)(cl:Int)(fin:Bool)(l:List T.ax)(W W':World):Prop:=
 (W'.os=W.os/\W'.tape=W.tape/\W'.output=W.output/\W.heap.size<=W'.heap.size/\∀b,b<W.heap.size->b≠p->W'.heap[b]? = W.heap[b]?)/\(∃c0 f0 t0,Bx W p 101 (kG kind n pm none c0 f0 t0 SA SB (.slice none 0 0)))/\
  (W'.heap[p]? = W.heap[p]?\/∃v':Value,Bx W' p 101 (kG kind n pm none cl fin v' SA SB (.slice none 0 0))/\bQ W' v' l)
section
variable {p pm:Nat} {kind n cl:Int} {SA SB:ByteArray} {fin:Bool} {l:List T.ax} {W W':World}
theorem DK.refl(h:∃c0 f0 t0,Bx W p 101 (kG kind n pm none c0 f0 t0 SA SB (.slice none 0 0))):DK p pm kind n SA SB cl fin l W W:=⟨⟨rfl,rfl,rfl,zl _,λ_ _ _=>rfl⟩,h,.inl rfl⟩
theorem DK.call(h:∃c0 f0 t0,Bx W p 101 (kG kind n pm none c0 f0 t0 SA SB (.slice none 0 0)))(hb:Below W.heap.size W W'):DK p pm kind n SA SB cl fin l W W':=
 ⟨⟨hb.os,hb.tape,hb.output,hb.size,λb h1 _=>hb.block b h1⟩,h,.inl (by obtain⟨_,_,_,hx⟩:=h;exact hb.block p hx.lt)⟩
theorem DK.rd{v:Value}{l2:List T.ax}(h:DK p pm kind n SA SB cl fin l W W')(hr:bQ W v l2):bQ W' v l2:=by obtain⟨⟨_,_,_,hs,hk⟩,⟨c0,f0,t0,hx⟩,_⟩:=h;exact QU hx hr hs hk
theorem DK.an8{v':Value}(h:DK p pm kind n SA SB cl fin l W W')(h1:Bx W p 101 (kG kind n pm none cl fin v' SA SB (.slice none 0 0)))(h2:bQ W v' l):∃v':Value,Bx W' p 101 (kG kind n pm none cl fin v' SA SB (.slice none 0 0))/\bQ W' v' l:=by
 rcases h.2.2 with h3|h3
 ·exact⟨v',(show Bx W' p _ _ from h3.trans h1),h.rd h2⟩
 ·exact h3
theorem DK.c{w:World}(h:DK p pm kind n SA SB cl fin l W W')(hc:(W.os=w.os/\W.tape=w.tape/\W.output=w.output/\w.heap.size<=W.heap.size/\∀b,b<w.heap.size->b≠p->W.heap[b]? = w.heap[b]?)/\True/\∃c0 f0 t0,Bx W p 101 (kG kind n pm none c0 f0 t0 SA SB (.slice none 0 0))):
 (W'.os=w.os/\W'.tape=w.tape/\W'.output=w.output/\w.heap.size<=W'.heap.size/\∀b,b<w.heap.size->b≠p->W'.heap[b]? = w.heap[b]?)/\True/\∃c0 f0 t0,Bx W' p 101 (kG kind n pm none c0 f0 t0 SA SB (.slice none 0 0)):=by
 obtain⟨⟨a1,a2,a3,a4,a5⟩,_,c0,f0,t0,hx⟩:=hc;obtain⟨⟨b1,b2,b3,b4,b5⟩,_,h3⟩:=h;refine⟨⟨b1.trans a1,b2.trans a2,b3.trans a3,zT a4 b4,λb h1 h2=>(b5 b (by omega) h2).trans (a5 b h1 h2)⟩,trivial,?_⟩;rcases h3 with h3|⟨v',h3,_⟩
 ·exact⟨c0,f0,t0,h3.trans hx⟩
 ·exact⟨cl,fin,v',h3⟩
theorem DK.store{c0:Int}{f0:Bool}{t0 v':Value}(hbx:Bx W p 101 (kG kind n pm none c0 f0 t0 SA SB (.slice none 0 0)))(hr:bQ W v' l):
 DK p pm kind n SA SB cl fin l W (((W.setCell ⟨p,4,none⟩ (.int .i64 cl)).setCell ⟨p,5,none⟩ (.bool fin)).setCell ⟨p,6,none⟩ v')/\∃v2:Value,Bx (((W.setCell ⟨p,4,none⟩ (.int .i64 cl)).setCell ⟨p,5,none⟩ (.bool fin)).setCell ⟨p,6,none⟩ v') p 101 (kG kind n pm none cl fin v2 SA SB (.slice none 0 0))/\bQ (((W.setCell ⟨p,4,none⟩ (.int .i64 cl)).setCell ⟨p,5,none⟩ (.bool fin)).setCell ⟨p,6,none⟩ v') v2 l:=by
 have ho:=(((fB.refl p W).set 4 (.int .i64 cl)).set 5 (.bool fin)).set 6 v';have h1:=((hbx.set 4 (.int .i64 cl)).set 5 (.bool fin)).set 6 v';have h2:=QU hbx hr (YF ho.size.symm) λb _ hb=>ho.block b hb
 exact⟨⟨⟨ho.os,ho.tape,ho.output,YF ho.size.symm,λb _ hb=>ho.block b hb⟩,⟨c0,f0,t0,hbx⟩,.inr ⟨v',h1,h2⟩⟩,v',h1,h2⟩
end
theorem Gh{P:Program}{Q:Exit->Act->World->Prop}{R:World->World->Prop}{V:Nat->Value->World->Prop}{i:Nat}{o:Oper}{a:Act}{w:World}(h:∀K:Act->World->Prop,(∀v w',R w w'->V i (kept o.dst v) w'->K (a.put o.dst v) w')->o.wp P a w K Q):
 o.wp P a w (λa' w'=>∃v,a'=a.put o.dst v/\R w w'/\V i (kept o.dst v) w') Q:=h _ λv w' h1 h2=>⟨v,rfl,h1,h2⟩
theorem Gi{P:Program}{Q:Exit->Act->World->Prop}{R:World->World->Prop}{V:Nat->Value->World->Prop}{i:Nat}{o:Oper}{a:Act}{w w':World}{v:Value}(hr:R w w')(hv:V i (kept o.dst v) w')(h:∀K:Act->World->Prop,K (a.put o.dst v) w'->o.wp P a w K Q):
 o.wp P a w (λa' w'=>∃v,a'=a.put o.dst v/\R w w'/\V i (kept o.dst v) w') Q:=h _ ⟨v,rfl,hr,hv⟩
def VT(p b3 nc m k9:Nat)(cnt:Int)(a9:Option Addr)(i:Nat)(v:Value)(W:World):Prop:=match i with
 |0=>v=.pointer (some ⟨b3,2,none⟩)
 |1=>v=.int .i64 cnt
 |2=>v=.pointer (some ⟨p,0,none⟩)
 |3=>v=.pointer (some ⟨p,0,none⟩)
 |4=>v=.pointer (some ⟨p,9,none⟩)
 |5=>v=.slice a9 nc k9
 |6=>v=.int .i64 (nc:Nat)
 |7=>v=.int .i64 (m:Nat)
 |8=>v=.int .i64 (m:Nat)
 |_=>True
theorem Tt(p b3 nc m k9:Nat)(cnt:Int)(a9:Option Addr)(i:Nat)(v:Value)(W W':World)(hR:(λW W'=>W=W') W W')(h:VT p b3 nc m k9 cnt a9 i v W):VT p b3 nc m k9 cnt a9 i v W':=by unfold VT at h ⊢;split at h <;> first|exact h
def VU(p pm:Nat)(kind n:Int)(SA SB:ByteArray)(cl:Int)(fin:Bool)(q code:Int)(l:List T.ax)(i:Nat)(v:Value)(W:World):Prop:=match i with
 |0=>v=.pointer (some ⟨p,0,none⟩)
 |1=>v=.pointer (some ⟨p,0,none⟩)
 |2=>v=.pointer (some ⟨p,0,none⟩)
 |3=>v=.pointer (some ⟨p,1,none⟩)
 |4=>v=.int .i64 n
 |5=>v=.pointer (some ⟨p,0,none⟩)
 |6=>v=.pointer (some ⟨p,0,none⟩)
 |7=>v=.pointer (some ⟨p,7,none⟩)
 |8=>v=.agg #[.string SA,.string SB]
 |9=>∃v':Value,v=.tuple #[aN cl fin v',.int .i64 q,.int .i64 code]/\bQ W v' l
 |10=>∃v':Value,v=.tuple #[aN cl fin v',.int .i64 q,.int .i64 code]/\bQ W v' l
 |11=>∃v':Value,v=aN cl fin v'/\bQ W v' l
 |12=>v=.int .i64 q
 |13=>v=.int .i64 code
 |14=>v=.pointer (some ⟨p,0,none⟩)
 |15=>v=.pointer (some ⟨p,4,none⟩)
 |16=>∃v':Value,Bx W p 101 (kG kind n pm none cl fin v' SA SB (.slice none 0 0))/\bQ W v' l
 |_=>True
theorem Tu(p pm:Nat)(kind n:Int)(SA SB:ByteArray)(cl:Int)(fin:Bool)(q code:Int)(l:List T.ax)(i:Nat)(v:Value)(W W':World)(hR:(DK p pm kind n SA SB cl fin l) W W')(h:VU p pm kind n SA SB cl fin q code l i v W):VU p pm kind n SA SB cl fin q code l i v W':=by
 by_cases h9:i=9
 ·subst h9;obtain⟨v',h1,h2⟩:=h;exact⟨v',h1,hR.rd h2⟩
 by_cases h10:i=10
 ·subst h10;obtain⟨v',h1,h2⟩:=h;exact⟨v',h1,hR.rd h2⟩
 by_cases h11:i=11
 ·subst h11;obtain⟨v',h1,h2⟩:=h;exact⟨v',h1,hR.rd h2⟩
 by_cases h16:i=16
 ·subst h16;obtain⟨v',h1,h2⟩:=h;exact hR.an8 h1 h2
 unfold VU at h ⊢;split at h <;> first|exact h|exact absurd rfl h9|exact absurd rfl h10|exact absurd rfl h11|exact absurd rfl h16
theorem iY.aeA{w w':World}{p pm:Nat}{D:PD}{df:Option Addr}{vt vc v':Value}{E:World->Prop}{EX Xm Rm:Nat->Prop}(h:iY w p D pm df vt vc E EX Xm Rm)(hs:w.heap.size<=w'.heap.size)(hk:∀b,b<w.heap.size->b≠p->w'.heap[b]? = w.heap[b]?){cl:Int}{fin:Bool}{l:List T.ax}
 (hbox:Bx w' p 101 (kG D.kind D.n pm df cl fin v' (str D.sA) (str D.sB) vc))(ht:bQ w' v' l)(hf:∀k,v'.ownBlock=some k->w.heap.size<=k/\k<w'.heap.size):iY w' p (D.zA cl fin l) pm df v' vc E EX Xm Rm:=by
 obtain⟨L,hm⟩:=h.med;have hlo:=h.lo;have hp:=h.box.lt;refine⟨hbox,⟨L,hm.keep hs λb hb=>hk b (hm.lt b hb) λe=>by subst e;exact hb.elim h.ap.p1 h.ap.p2⟩,ht,λk hb=>(hf k hb).2,yL h.ca λk hb=>hk k (oP h.ca k hb) (h.ap.c1 k hb),λw2 h2=>h.ex w2 λb hb=>(h2 b hb).trans (hk b (h.el b hb) λe=>h.ap.p3 (e ▸ hb)),λb hb=>zL (h.el b hb) hs,
  ⟨h.ap.p1,h.ap.p2,h.ap.p3,h.ap.e1,h.ap.e2,λk hb e=>?_,λk hb hx=>?_,λk hb hx=>?_,λk hb e=>?_,h.ap.c1,h.ap.c2,h.ap.c3,h.ap.c4⟩⟩
 ·have:=(hf k hb).1;omega
 ·have:=(hf k hb).1;have:=hm.lt k (.inl hx);omega
 ·have:=(hf k hb).1;have:=h.el k hx;omega
 ·have:=(hf k hb).1;have:=oP h.ca k e;omega
theorem Ch.aeA{w w' w0:World}{X0 R0 EX Xm Rm:Nat->Prop}{p:Nat}{vc vt v':Value}(h:Ch X0 R0 (DX p vc EX Xm) (DR vt Rm) w0 w)(ho:w'.os=w.os/\w'.tape=w.tape/\w'.output=w.output/\w.heap.size<=w'.heap.size/\∀b,b<w.heap.size->b≠p->w'.heap[b]? = w.heap[b]?)(hf:∀k,v'.ownBlock=some k->w.heap.size<=k):Ch X0 R0 (DX p vc EX Xm) (DR v' Rm) w0 w':=by
 obtain⟨a1,a2,a3,a4,a5⟩:=ho;refine⟨a1.trans h.os,a2.trans h.tape,a3.trans h.output,zT h.size a4,λb hb hx=>(a5 b (zL hb h.size) ?_).trans (h.block b hb hx),h.x,λb hb=>?_⟩
 ·rintro rfl;exact(h.x b (.inl rfl)).elim hx (λh3=>by omega)
 ·rcases hb with hb|hb
  ·exact h.r b (.inl hb)
  ·exact .inr (zT h.size (hf b hb))
theorem iY.Ns{w w':World}{p pm g n c:Nat}{D:PD}{df:Option Addr}{vc:Value}{E:World->Prop}{EX Xm Rm:Nat->Prop}(h:iY w p D pm df (.slice (some ⟨g,0,none⟩) n c) vc E EX Xm Rm)(hr:¬ Rm g)(hg:w.grownBy w' (some g)){l:List T.ax}(ht:bQ w' (.slice (some ⟨g,0,none⟩) n c) l):iY w' p {D with tr:=l} pm df (.slice (some ⟨g,0,none⟩) n c) vc E EX Xm Rm:=by
 obtain⟨L,hm⟩:=h.med;have hk:∀b,b<w.heap.size->b≠g->w'.heap[b]? = w.heap[b]?:=λb h1 h2=>hg.block b h1 λe=>h2 (zs e)
 have hgo:(Value.slice (some ⟨g,0,none⟩) n c).ownBlock=some g:=rfl;refine⟨(hk p h.box.lt λe=>h.ap.t1 g hgo e.symm).trans h.box,⟨L,hm.keep hg.size λb hb=>hk b (hm.lt b hb) λe=>by subst e;exact hb.elim (h.ap.t2 b hgo) hr⟩,ht,λk hb=>zL (h.tl k hb) hg.size,yL h.ca λk hb=>hk k (oP h.ca k hb) λe=>by subst e;exact h.ap.t4 k hgo hb,
  λw2 h2=>h.ex w2 λb hb=>(h2 b hb).trans (hk b (h.el b hb) λe=>by subst e;exact h.ap.t3 b hgo hb),λb hb=>zL (h.el b hb) hg.size,h.ap⟩
theorem Ch.Ns{w w' w0:World}{X0 R0 X R:Nat->Prop}{g:Nat}(h:Ch X0 R0 X R w0 w)(hg:w.grownBy w' (some g))(h0:w0.heap.size<=g):Ch X0 R0 X R w0 w':=
 ⟨hg.os.trans h.os,hg.tape.trans h.tape,hg.output.trans h.output,zT h.size hg.size,λb hb hx=>(hg.block b (zL hb h.size) λe=>by have:=zs e;omega).trans (h.block b hb hx),h.x,h.r⟩
def jf(M:aA)(l:List T.ax)(k:Nat):List T.ax:=(l.take k).map (lV M)++l.drop k
theorem JL(M:aA)(l:List T.ax){k:Nat}(h:k<=l.length):(jf M l k).length=l.length:=by simp[jf];omega
theorem FX(M:aA)(l:List T.ax):jf M l 0=l:=by simp[jf]
theorem aaT(M:aA)(l:List T.ax):jf M l l.length=yQ M l:=by simp[jf,yQ]
theorem QW(M:aA)(l:List T.ax){k:Nat}(h:k<l.length):T.tr (jf M l k) k=T.tr l k:=by unfold T.tr jf;rw[Xg (by simp;omega)];simp[XU (Nat.le_of_lt h)]
theorem U2(M:aA)(l:List T.ax){k:Nat}(h:k<l.length):(jf M l k).set k (lV M (T.tr l k))=jf M l (k+1):=by
 apply YS;intro j;unfold jf;have e:T.tr l k=l[k]:=by simp[T.tr,h]
 rw[YP];by_cases hj:k=j
 ·subst hj;rw[zj rfl,zj (by simp;omega),YY (by simp;omega)];simp[e,h]
 ·rw[zi hj];by_cases hl:j<k
  ·rw[YY (by simp;omega),YY (by simp;omega)];simp[Xz,hl,show j<k+1 by omega]
  ·rw[Xg (by simp;omega),Xg (by simp;omega)];simp only[YQ,Yk,List.getElem?_drop]
   congr 1
   omega
theorem abz{cap cl:Int}{fin:Bool}{l:List T.ax}(h:T.aK cap cl fin l){i:Nat}(hi:i<l.length):TkB (T.tr l i):=by have h1:=T.aK.at h hi;obtain⟨o1,o2,o3,o4,o5,o6,o7,o8,o9,Og,_⟩:=h.2.2.2.2.2.1 i hi;have:=h.2.1;exact⟨h1.2.1,o6,by omega,o8,o9⟩
theorem aaM{w w0:World}{p pm N:Nat}{D:PD}{vt vc:Value}{E:World->Prop}{EX Xm Rm X0 R0:Nat->Prop}(h:iY w p D pm none vt vc E EX Xm Rm)(hc:Ch X0 R0 (DX p vc EX Xm) (DR vt Rm) w0 w)(ho:kF D N)(hN:N<=4611686018427380000)
 (k aj cnt bP pk:Int)(hi:i64 cnt)(a5:Option Addr)(n5 c5:Nat)(hcn:cnt<0):
 Calls prog 84 #[.pointer (some ⟨p,0,none⟩),jk k aj cnt bP pk (.slice a5 n5 c5)] w (zW w0 X0 R0 p pm none E EX (N+65) (UW cnt D).1 (UW cnt D).2):=by
 obtain⟨wA,hwA⟩:∃w1,w1=(w.alloc (.cells #[.int .i64 k,.int .i64 aj,.int .i64 cnt,.int .i64 bP,.int .i64 pk,.slice a5 n5 c5] 49)).alloc (.cells aX.toArray 58):=⟨_,rfl⟩;obtain⟨b3,hb3⟩:∃b,b=w.heap.size:=⟨_,rfl⟩;obtain⟨b4,hb4⟩:∃b,b=w.heap.size+1:=⟨_,rfl⟩;have hA1:=(zB w.heap.size w).alloc (zl _) (.cells #[.int .i64 k,.int .i64 aj,.int .i64 cnt,.int .i64 bP,.int .i64 pk,.slice a5 n5 c5] 49);have hA:=hA1.alloc hA1.size (.cells aX.toArray 58);have ig:Bx ((w.alloc (.cells #[.int .i64 k,.int .i64 aj,.int .i64 cnt,.int .i64 bP,.int .i64 pk,.slice a5 n5 c5] 49)).alloc (.cells aX.toArray 58)) w.heap.size 49 [.int .i64 k,.int .i64 aj,.int .i64 cnt,.int .i64 bP,.int .i64 pk,.slice a5 n5 c5]:=(Bx.new w 49 [.int .i64 k,.int .i64 aj,.int .i64 cnt,.int .i64 bP,.int .i64 pk,.slice a5 n5 c5]).alloc _;have hbx:=Bx.new (w.alloc (.cells #[.int .i64 k,.int .i64 aj,.int .i64 cnt,.int .i64 bP,.int .i64 pk,.slice a5 n5 c5] 49)) 58 aX;rw[<-hwA]at hA hbx ig;rw[Yl,<-hb4]at hbx;rw[<-hb3]at ig;have HTA:=zH (hc.trans (Ch.of hA));have HDA:=zH (h.below hA);have Aa:=zH hbx;have Zu:=zH ig;have HB4:Hid (b4<wA.heap.size/\(∀b,DX p vc EX Xm b\/DR vt Rm b->b≠b4)/\w0.heap.size<=b4):=zH ⟨hbx.lt,λb hb=>by have:=h.lo b hb;omega,by have:=hc.size;omega⟩;have HWA:Hid ((w.alloc (.cells #[.int .i64 k,.int .i64 aj,.int .i64 cnt,.int .i64 bP,.int .i64 pk,.slice a5 n5 c5] 49)).alloc (.cells #[.int .i64 0,.int .i64 0,.slice none 0 0,.int .i64 0,.bool false,.slice none 0 0] 58)=wA):=zH hwA.symm;have IX:=zH hb4;have RU:=zH hb3;have HO:=zH ho;have HN:=zH hN;have x2:=ig.cell (i:=2) rfl;have Be:=zH (pK 4 0 wA);unfold jg Rp.sense at Be;have hz:UW cnt D=(Rp.sense 4 0,D):=by unfold UW;rw[zj hcn]
 rw[hz];have hcd:decide (cnt<0)=true:=zt hcn;clear hwA hb3 hb4 hA1 hA ig hbx h hc ho hN hi hz;unfold jk;go_enter func84,ntmps84;go_upto_region 1 with (fail)
 rw[HWA.out,<-IX.out,<-RU.out];go_wp2_with fail;refine Be.out.mono ?_;rintro e w7 ⟨rfl,hb7⟩;have HD7:=zH (HDA.out.below hb7);have zO:=zH (HTA.out.trans (Ch.of (X:=DX p vc EX Xm) (R:=DR vt Rm) hb7));have hx7:=Aa.out.call hb7;unfold aX at hx7;have t0:=hx7.cell (i:=0) rfl;have t1:=hx7.cell (i:=1) rfl;have t2:=hx7.cell (i:=2) rfl;have t3:=hx7.cell (i:=3) rfl;have t4:=hx7.cell (i:=4) rfl;have t5:=hx7.cell (i:=5) rfl;have tf:=λi=>hx7.free i
 clear hx7 hb7 x2;go_wp2_with fail;exact zr (v:=jg (Rp.sense 4 0) (.slice none 0 0) (.slice none 0 0)) (by simp[results,results84,go_sem,jg,Rp.sense,t0,t1,t2,t3,t4,t5]) rfl ⟨vt,vc,Xm,Rm,rfl,ji HD7.out HB4.out.2.1 _ _ _ _ _ _,lX zO.out HB4.out.2.2 _ _ _ _ _ _,HO.out.ok.md.mono (by omega)⟩
theorem ae0{P:Program}{t e:TypeId}(ht:P.underlying t=some (.slice e)){sz:Nat}(hs:(P.info? e).map (·.size)=some sz){v:Value}{w:World}{n:Nat}{f:Nat->List Value}(h:dU w sz v n f)(hi:Nat)(h2:hi<=n):
 ∃v',dU w sz v' hi f/\∀(y:Int)(w':World),y=hi->(Instr.slice t v none (some (.int .i64 y)) none).run P w'=.ok v' w':=by
 obtain⟨a,c,b,off,rfl,hc,hcell⟩:=h;cases hq:P.info? e with
 |none=>simp[hq]at hs
 | some i=>
   have hs1:i.size=sz:=by simpa[hq]using hs
   refine⟨.slice a hi c,⟨a,c,b,off,rfl,by omega,λj hj=>hcell j (by omega)⟩,?_⟩;rintro y w' rfl;have ha:¬ c=0->Option.map (λx=>x.add 0) a=a:=λ_=>by
    cases a with
    |none=>rfl
    |some ad=>simp[Addr.add]
   simp[Instr.slice,YH ht,Instr.sliceBounds,run_sliceBound,sizeOf,typeInfo,hq,(by omega:hi<=c)];first|exact ha|skip
theorem acp{W:World}{vc:Value}{l:List (Int×List UInt8)}(h:W.ownsRow 0 131 2 vc l.length (fH Bg l)){m:Nat}(hm:m<=l.length):
 ∃a c,(∀(y:Int)(w':World),y=(m:Nat)->(Instr.slice 99 vc none (some (.int .i64 y)) none).run prog w'=.ok (.slice a m c) w')/\∀W2:World,W2.ownsRow 0 131 2 vc l.length (fH Bg l)->dB N9 Bg 2 W2 (.slice a m c) (l.take m):=by
 have hsz:(prog.info? 131).map (·.size)=some 2:=by kernel_rfl
 obtain⟨v',h1,e1⟩:=ae0 (P:=prog) underlying99 hsz (dB.bg (d:=N9) xP h) m hm;obtain⟨a,c,rfl,_⟩:=dU.form h1;refine⟨a,c,e1,λW2 h2=>?_⟩;obtain⟨v2,h3,e3⟩:=ae0 (P:=prog) underlying99 hsz (dB.bg (d:=N9) xP h2) m hm;have e:=(e1 m W2 rfl).symm.trans (e3 m W2 rfl);simp only[Result.ok.injEq,and_true]at e;subst e;show dU W2 2 _ (l.take m).length _;rw[Yk,XU hm];refine dU.congr h3 λi hi=>?_
 simp[aJ,Xz,hi]
structure PwL (w0:World) (X0 R0:Nat->Prop) (p pm b4 n8:Nat) (E:World->Prop) (EX X2 R2:Nat->Prop) (D:PD) (M:aA) (l:List T.ax) (vt:Value) (j:Nat) (W:World):Prop where
 d:iY W p {D with tr:=jf M l j} pm none vt (.slice none 0 0) E EX X2 R2
 own:W.ownsRow n8 94 7 vt l.length (fl (jf M l j))
 ch:Ch X0 R0 (DX p (.slice none 0 0) EX X2) (DR vt R2) w0 W
 x4:Bx W b4 58 aX
theorem iY.ahX{w:World}{p pm:Nat}{D:PD}{df:Option Addr}{vt vc:Value}{E:World->Prop}{EX Xm Rm:Nat->Prop}(hd:iY w p D pm df vt vc E EX Xm Rm):iY (w.setCell ⟨p,9,none⟩ (.slice none 0 0)) p {D with ca:=[]} pm df vt (.slice none 0 0) E EX Xm Rm:=
 hd.put ((fB.refl p w).set 9 _) (hd.box.set 9 _) rfl hd.tr hd.tl ⟨rfl,.inl ⟨rfl,rfl⟩⟩ ⟨hd.ap.p1,hd.ap.p2,hd.ap.p3,hd.ap.e1,hd.ap.e2,hd.ap.t1,hd.ap.t2,hd.ap.t3,λk _ h=>(by cases h),λk h=>(by cases h),λk h=>(by cases h),λk h=>(by cases h),λk h=>by cases h⟩
theorem aeh{w w0:World}{p pm N:Nat}{D:PD}{vt vc:Value}{E:World->Prop}{EX Xm Rm X0 R0:Nat->Prop}(h:iY w p D pm none vt vc E EX Xm Rm)(hc:Ch X0 R0 (DX p vc EX Xm) (DR vt Rm) w0 w)(ho:kF D N)(hN:N<=4611686018427380000)
 (k aj cnt bP pk:Int)(hi:i64 cnt)(a5:Option Addr)(n5 c5:Nat)(hcn:0<=cnt):
 Calls prog 84 #[.pointer (some ⟨p,0,none⟩),jk k aj cnt bP pk (.slice a5 n5 c5)] w (zW w0 X0 R0 p pm none E EX (N+65) (UW cnt D).1 (UW cnt D).2):=by
 obtain⟨a9,k9,hvc⟩:=aS h.ca;subst hvc;obtain⟨wA,hwA⟩:∃w1,w1=(w.alloc (.cells #[.int .i64 k,.int .i64 aj,.int .i64 cnt,.int .i64 bP,.int .i64 pk,.slice a5 n5 c5] 49)).alloc (.cells aX.toArray 58):=⟨_,rfl⟩;obtain⟨b3,hb3⟩:∃b,b=w.heap.size:=⟨_,rfl⟩;obtain⟨b4,hb4⟩:∃b,b=w.heap.size+1:=⟨_,rfl⟩;have hA1:=(zB w.heap.size w).alloc (zl _) (.cells #[.int .i64 k,.int .i64 aj,.int .i64 cnt,.int .i64 bP,.int .i64 pk,.slice a5 n5 c5] 49);have hA:=hA1.alloc hA1.size (.cells aX.toArray 58);have ig:Bx ((w.alloc (.cells #[.int .i64 k,.int .i64 aj,.int .i64 cnt,.int .i64 bP,.int .i64 pk,.slice a5 n5 c5] 49)).alloc (.cells aX.toArray 58)) w.heap.size 49 [.int .i64 k,.int .i64 aj,.int .i64 cnt,.int .i64 bP,.int .i64 pk,.slice a5 n5 c5]:=(Bx.new w 49 [.int .i64 k,.int .i64 aj,.int .i64 cnt,.int .i64 bP,.int .i64 pk,.slice a5 n5 c5]).alloc _;have hbx:=Bx.new (w.alloc (.cells #[.int .i64 k,.int .i64 aj,.int .i64 cnt,.int .i64 bP,.int .i64 pk,.slice a5 n5 c5] 49)) 58 aX;rw[<-hwA]at hA hbx ig;rw[Yl,<-hb4]at hbx;rw[<-hb3]at ig;have HTA:=zH (hc.trans (Ch.of hA));have HDA:=zH (h.below hA);have Aa:=zH hbx;have Zu:=zH ig;have HB4:Hid (b4<wA.heap.size/\(∀b,DX p (.slice a9 D.ca.length k9) EX Xm b\/DR vt Rm b->b≠b4)/\w0.heap.size<=b4):=zH ⟨hbx.lt,λb hb=>by have:=h.lo b hb;omega,by have:=hc.size;omega⟩;have HWA:Hid ((w.alloc (.cells #[.int .i64 k,.int .i64 aj,.int .i64 cnt,.int .i64 bP,.int .i64 pk,.slice a5 n5 c5] 49)).alloc (.cells #[.int .i64 0,.int .i64 0,.slice none 0 0,.int .i64 0,.bool false,.slice none 0 0] 58)=wA):=zH hwA.symm;have IX:=zH hb4;have RU:=zH hb3;have HO:=zH ho;have HN:=zH hN;have x2:=ig.cell (i:=2) rfl;obtain⟨m,hm⟩:∃m,m=min cnt.toNat D.ca.length:=⟨_,rfl⟩;have hz:UW cnt D=(Rp.ok,pwD m D):=by unfold UW;rw[zi (by omega),<-hm]
 rw[hz];have adg:m<=D.ca.length:=by rw[hm];exact Nat.min_le_right _ _
 have HML:=zH adg;obtain⟨av,cv,hcut,amf⟩:=acp HDA.out.ca adg;have akP:=zH (λw'=>hcut (m:Nat) w' rfl);have anI:=zH amf;have hcd:decide (cnt<0)=false:=zf (by omega);have HD1:=zH (HDA.out.below ((zB wA.heap.size wA).drew));have HFL:=zH (LJ HD1.out (Ch.refl (X:=DX p (.slice a9 D.ca.length k9) EX Xm) (R:=DR vt Rm)) HO.out.ok.md (.slice av m cv) (D.ca.take m) (by have:=HO.out.ok.n64;rw[Yk];omega) (by have:=HO.out.ok.n64;rw[Yk];omega) anI.out (λx hx=>HO.out.ok.ca x (List.mem_of_mem_take hx)));obtain⟨c0,c1,c2,c3,c4,Bf,c6,c7,c8,c9⟩:=HD1.out.cells;have HX9:=zH c9;have CX:Hid (wA.drew.cell? ⟨b3,2,none⟩=some (.int .i64 cnt)):=zH x2;have anV:=zH (Aa.out.call ((zB wA.heap.size wA).drew));have HT1:=zH (HTA.out.trans (Ch.of (X:=DX p (.slice a9 D.ca.length k9) EX Xm) (R:=DR vt Rm) ((zB wA.heap.size wA).drew)));have hmn:min cnt (D.ca.length:Int)=(m:Nat):=by rw[hm];omega
 have HMN:=zH hmn;obtain⟨nc,hnc⟩:∃n,n=D.ca.length:=⟨_,rfl⟩;have HNC:=zH hnc;rw[<-hnc]at HFL HX9 HMN HB4 HD1 HT1 akP HML;have aoW:=zH hi;clear hwA hb3 hb4 hA1 hA ig hbx h hc ho hN hi hz hm adg hcut amf c0 c1 c2 c3 c4 Bf c6 c7 c8 c9 hmn hnc hcn HDA HTA Zu;unfold jk;go_enter func84,ntmps84;go_upto_region 1 with (fail)
 rw[HWA.out,<-IX.out,<-RU.out];go_upto_region 3 with (fail)
 clear x2 hcd;refine fP (by kernel_rfl) (λW W'=>W=W') (λW=>Hid (W=wA.drew)) (VT p b3 nc m k9 cnt a9) (λ_=>false) (by kernel_rfl) (λW W' hR h=>hR ▸ h) (Tt p b3 nc m k9 cnt a9) (zH rfl) ⟨?_,?s1,?_,?_,?_,?s5,?s6,?s7,?_,trivial⟩ ?_;all_goals first
  | (intro a W hc hsz hold ah
     have o0:a.tmps.getD 0 undef=.pointer (some ⟨p,0,none⟩):=hold 0 (by kernel_rfl);have o3:a.tmps.getD 3 undef=.pointer (some ⟨b3,0,none⟩):=hold 3 (by kernel_rfl);try have d2:=zV 13 (.pointer (some ⟨p,0,none⟩)) (ah 2 rfl rfl _ rfl)
     try have d3:=zV 14 (.pointer (some ⟨p,0,none⟩)) (ah 3 rfl rfl _ rfl)
     try have d7:=zV 18 (.int .i64 (m:Nat)) (ah 7 rfl rfl _ rfl)
     clear hsz hold ah;refine ai rfl (ag rfl) ?_;refine ak rfl rfl λK hK=>?_
     go_simp;exact hK)
  |skip
 try case s1=>
  intro a W hc hsz hold ah;have d0:=zV 11 (.pointer (some ⟨b3,2,none⟩)) (ah 0 rfl rfl _ rfl);obtain rfl:W=wA.drew:=hc.out;have z1:=CX.out;clear hsz hold ah;refine ai rfl (ag rfl) ?_;refine ak (v:=.int .i64 cnt) rfl rfl λK hK=>?_
  go_simp;exact hK
 try case s5=>
  intro a W hc hsz hold ah;have d4:=zV 15 (.pointer (some ⟨p,9,none⟩)) (ah 4 rfl rfl _ rfl);obtain rfl:W=wA.drew:=hc.out;have z1:=HX9.out;clear hsz hold ah;refine ai rfl (ag rfl) ?_;refine ak (v:=.slice a9 nc k9) rfl rfl λK hK=>?_
  go_simp;exact hK
 try case s6=>
  intro a W hc hsz hold ah;have d5:=zV 16 (.slice a9 nc k9) (ah 5 rfl rfl _ rfl);have e5:=zq d5;clear hsz hold ah;refine ai rfl (ag rfl) ?_;refine ak (v:=.int .i64 (nc:Nat)) rfl rfl λK hK=>?_
  go_simp;exact hK
 try case s7=>
  intro a W hc hsz hold ah;have d1:=zV 12 (.int .i64 cnt) (ah 1 rfl rfl _ rfl);have e1:=zq d1;have d6:=zV 17 (.int .i64 (nc:Nat)) (ah 6 rfl rfl _ rfl);have e6:=zq d6;clear hsz hold ah;refine ai rfl (ag rfl) ?_;have hmn:=HMN.out;refine ak (v:=.int .i64 (m:Nat)) rfl rfl λK hK=>?_
  go_simp;exact hK
 ·intro a W hC hd hsz hold hval;have d5:a.tmps.getD 5 undef=.int .i64 (m:Nat):=hval 8 _ rfl rfl;obtain⟨G,hG,ha⟩:=dK [5,11,12,13,14,15,16,17,18] (by kernel_rfl) hd hsz hold;simp only[hG]at d5;rw[ha];clear ha hG hd hsz hold;simp only[cZ,Ym,List.set,d5];clear d5;replace hC:W=wA.drew:=hC.out;subst hC;clear hval;have c9:=HX9.out;have hcu:=akP.out;go_upto_region 5 with (go_at_call 155;refine HFL.out.mono ?_;rintro e w4 ⟨X4,R4,rfl,hd4,hc4,ama⟩)
  obtain⟨alF,alH⟩:=qR hc4 (by exact HB4.out.1) (λk hk=>HB4.out.2.1 k hk);have HD4:=zH hd4;have HT4:=zH (HT1.out.trans hc4);have anF:=zH ama;have ak8:Hid (Bx w4 b4 58 aX):=zH (alH.trans anV.out);have akC:=zH alF;obtain⟨c0,c1,c2,c3,c4,Bf,c6,c7,c8,c9⟩:=hd4.cells;dsimp only at c0 c1 c2 c3 c4 Bf c6 c7 c8 c9;clear hd4 hc4 ama alF alH hcu
  go_upto_if 33 with (fail)
  go_cut [] from 33 to 48 (λwx=>∃X2 R2,iY wx p {D with M:=BO m D} pm none vt (.slice a9 nc k9) E EX X2 R2/\Ch X0 R0 (DX p (.slice a9 nc k9) EX X2) (DR vt R2) w0 wx/\Bx wx b4 58 aX/\∀b,DX p (.slice a9 nc k9) EX X2 b\/DR vt R2 b->b≠b4)
  case first=>
   by_cases hlt:m<nc
   ·have hld:decide ((m:Int)<(nc:Int))=true:=zt (by omega);have hlt':m<D.ca.length:=by rw[<-HNC.out];exact hlt
    have hPW:BO m D=((kM D.M (D.ca.take m)).1.uA (aJ N9 D.ca m).1).2:=by unfold BO;rw[zj hlt']
    have HPW:=zH hPW;obtain⟨bo,off,kc⟩:=dB.at (dB.bg (d:=N9) xP HD4.out.ca);obtain⟨ha9,hrg⟩:=kc m hlt';have hix:=λw'=>aB (P:=prog) underlying99 (by kernel_rfl:(prog.info? 131).map (·.size)=some 2) (cap:=k9) ha9 hlt (m:Int) rfl w'
    have y0:=hrg 0 _ rfl;obtain⟨x0,hx0⟩:∃x,x=(aJ N9 D.ca m).1:=⟨_,rfl⟩;rw[<-hx0]at y0 HPW;simp only[YO]at y0;have HTR:Hid (∀W,fF W pm (kM D.M (D.ca.take m)).1 X4 R4->Calls prog 161 #[.pointer (some ⟨pm,0,none⟩),.int .i64 x0] W (Ho ((kM D.M (D.ca.take m)).1.uA x0) pm X4 R4 W)):=zH λW hW=>akr hW anF.out (by have:=HN.out;have:=HO.out.ok.n64;rw[Yk];omega) x0
    have G8:=zH (λ(W:World) (hc:W.cell? ⟨p,3,none⟩=some (.pointer none))=>wY hc x0);clear hPW kc hrg hlt' hx0 ha9;go_upto_region 6 with (fail)
    go_still_tail 14,(by kernel_rfl)
    still_call (Jn (G8.out _ (by assumption)))
    repeat still_step
    change wpList _ _ _ _ _ w4.drew;have hdr:=(zB w4.heap.size w4).drew;have hd5:=HD4.out.below hdr;have HC5:=zH (HTR.out w4.drew hd5.med);have HD5:=zH hd5;have ak9:=zH (ak8.out.call hdr);have HT5:=zH (HT4.out.trans (Ch.of (X:=DX p (.slice a9 nc k9) EX X4) (R:=DR vt R4) hdr));clear hdr hd5 c0 c1 c2 c3 c4 Bf c6 c7 c8 c9 y0 hix;go_wp2_with fail;refine HC5.out.mono ?_;rintro e w6 ⟨rfl,X6,R6,hm6,hc6⟩;obtain⟨hd6,LW⟩:=HD5.out.medium hm6 hc6;obtain⟨alG,alI⟩:=qR LW ak9.out.lt (λk hk=>akC.out k hk);have HG:=zH (show ∃X2 R2,iY w6 p {D with M:=BO m D} pm none vt (.slice a9 nc k9) E EX X2 R2/\Ch X0 R0 (DX p (.slice a9 nc k9) EX X2) (DR vt R2) w0 w6/\Bx w6 b4 58 aX/\∀b,DX p (.slice a9 nc k9) EX X2 b\/DR vt R2 b->b≠b4 from⟨X6,R6,by rw[HPW.out];exact hd6,HT5.out.trans LW,alI.trans ak9.out,alG⟩);clear hm6 hc6 hd6 LW alG alI;go_wp2_with fail;go_meet;exact HG.out
   ·have hld:decide ((m:Int)<(nc:Int))=false:=zf (by omega);have HPW:Hid (BO m D=(kM D.M (D.ca.take m)).1):=zH (by unfold BO;rw[zi (by rw[<-HNC.out];exact hlt)]);go_wp2_with fail;go_meet;exact⟨X4,R4,by rw[HPW.out];exact HD4.out,HT4.out,ak8.out,akC.out⟩
  case rest=>
   obtain⟨X2,R2,hdx,htx,amo,ajD⟩:=hcut;obtain⟨M,hM⟩:∃M,M=BO m D:=⟨_,rfl⟩;rw[<-hM]at hdx;have HME:=zH hM;have hd7:=hdx.ahX;have uf:=hdx.box.free 9;have ul:=hdx.box.lt;have u9:=hdx.box.cell (i:=9) rfl;obtain⟨w7,hw7⟩:∃w7,w7=wc.setCell ⟨p,9,none⟩ (.slice none 0 0):=⟨_,rfl⟩;have ho7:fB p wc w7:=by rw[hw7];exact(fB.refl p wc).set 9 _
   have hp4:b4≠p:=Vb (ajD p (.inl (.inl rfl)));have zO:Hid (Ch X0 R0 (DX p (.slice none 0 0) EX X2) (DR vt R2) w0 w7):=zH (Ch.put htx ho7 (λk h=>by cases h) (λk hk=>htx.r k (.inr hk)));have aiZ:Hid (Bx w7 b4 58 aX):=zH ((ho7.block b4 hp4).trans amo);rw[<-hw7]at hd7;have HD7:=zH hd7;have HW7:=zH hw7.symm;have abP:Hid (b4≠p/\∀b,X2 b\/EX b\/R2 b->b≠b4):=zH ⟨hp4,λb hb=>ajD b (hb.elim (λh1=>.inl (.inr (.inl h1))) (λhb=>hb.elim (λh1=>.inl (.inr (.inr (.inl h1)))) (λh1=>.inr (.inl h1))))⟩;have HON:=zH (Ej (hd7.cells).1);have HKD:Hid (((D.kind:Nat):Int)=1):=zH (by rw[HO.out.ok.kind];rfl);clear hdx htx amo ajD hM hd7 hw7 ho7 hp4 c0 c1 c2 c3 c4 Bf c6 c7 c8 c9;go_upto_region 8 with (fail)
   rw[HW7.out];clear uf ul u9;go_upto_region 9 with (go_at_call 152;refine HON.out.mono ?_;rintro e w6 ⟨rfl,rfl⟩;rw[zt HKD.out])
   obtain⟨r,hr⟩:∃r,r=E1.lZ D.n D.sA D.sB:=⟨_,rfl⟩;have HRL:=zH hr;have HVL:Hid (T.aK D.n r.1.cl r.1.fin r.1.l):=zH (by rw[hr];exact Ff HO.out.ok.v.1 HO.out.ok.v.2.1 _ _);have HLD:Hid (∀W,Calls prog 162 #[.int .i64 D.n,.agg #[.string (str D.sA),.string (str D.sB)]] W (E1.I5 r W)):=zH λW=>by rw[hr];exact E1.aaI D.n D.sA D.sB W HO.out.ok.a HO.out.ok.b
   unfold E1.I5 aN at HLD;obtain⟨⟨cl,fin,l,code⟩,q⟩:=r;dsimp only at HLD HVL;have afr:=zH HD7.out.box;obtain⟨kind,hkind⟩:∃k:Int,k=(D.kind:Nat):=⟨_,rfl⟩;obtain⟨n,hn⟩:∃k:Int,k=(D.n:Nat):=⟨_,rfl⟩;obtain⟨SA,hSA⟩:∃s,s=str D.sA:=⟨_,rfl⟩;obtain⟨SB,Wn⟩:∃s,s=str D.sB:=⟨_,rfl⟩;have HEQ:=zH (And.intro hkind (And.intro hn (And.intro hSA Wn)));dsimp only at afr;rw[<-hkind,<-hn,<-hSA,<-Wn]at afr;rw[<-hn,<-hSA,<-Wn]at HLD;clear hr hkind hn hSA Wn;refine fP (by kernel_rfl) (DK p pm kind n SA SB cl fin l) (λW=>(W.os=w7.drew.os/\W.tape=w7.drew.tape/\W.output=w7.drew.output/\w7.drew.heap.size<=W.heap.size/\∀b,b<w7.drew.heap.size->b≠p->W.heap[b]? = w7.drew.heap[b]?)/\True/\∃c0 f0 t0,Bx W p 101 (kG kind n pm none c0 f0 t0 SA SB (.slice none 0 0))) (VU p pm kind n SA SB cl fin q code l) (λ_=>false) (by kernel_rfl) (λW W' hR h=>hR.c h) (Tu p pm kind n SA SB cl fin q code l) (⟨⟨rfl,rfl,rfl,zl _,λ_ _ _=>rfl⟩,trivial,_,_,_,afr.out⟩) ⟨?_,?_,?_,?_,?s4,?_,?_,?_,?s8,?s9,?s10,?s11,?s12,?s13,?_,?_,?s16,trivial⟩ ?_;all_goals first
    | (intro a W hc hsz hold ah
       have o0:a.tmps.getD 0 undef=.pointer (some ⟨p,0,none⟩):=hold 0 (by kernel_rfl);try have d0:=zV 55 (.pointer (some ⟨p,0,none⟩)) (ah 0 rfl rfl _ rfl)
       try have d1:=zV 56 (.pointer (some ⟨p,0,none⟩)) (ah 1 rfl rfl _ rfl)
       try have d2:=zV 57 (.pointer (some ⟨p,0,none⟩)) (ah 2 rfl rfl _ rfl)
       try have d5:=zV 60 (.pointer (some ⟨p,0,none⟩)) (ah 5 rfl rfl _ rfl)
       try have d6:=zV 61 (.pointer (some ⟨p,0,none⟩)) (ah 6 rfl rfl _ rfl)
       try have d14:=zV 68 (.pointer (some ⟨p,0,none⟩)) (ah 14 rfl rfl _ rfl)
       clear hsz hold ah;refine ai rfl (ag rfl) ?_;refine ak (DK.refl hc.2.2) rfl λK hK=>?_
       go_simp;exact hK)
    |skip
   try case s4=>
    intro a W hc hsz hold ah;have d3:=zV 58 (.pointer (some ⟨p,1,none⟩)) (ah 3 rfl rfl _ rfl);have hc0:=hc;obtain⟨_,_,c0,f0,t0,hbx⟩:=hc;have z1:=hbx.cell (i:=1) rfl;clear hsz hold ah;refine ai rfl (ag rfl) ?_;have hc:=hc0;refine ak (v:=.int .i64 n) (DK.refl hc.2.2) rfl λK hK=>?_
    go_simp;exact hK
   try case s8=>
    intro a W hc hsz hold ah;have d7:=zV 62 (.pointer (some ⟨p,7,none⟩)) (ah 7 rfl rfl _ rfl);have hc0:=hc;obtain⟨_,_,c0,f0,t0,hbx⟩:=hc;have z7:=hbx.cell (i:=7) rfl;have z8:=hbx.cell (i:=8) rfl;clear hsz hold ah;refine ai rfl (ag rfl) ?_;have hc:=hc0;refine ak (v:=.agg #[.string SA,.string SB]) (DK.refl hc.2.2) rfl λK hK=>?_
    go_simp;exact hK
   try case s9=>
    intro a W hc hsz hold ah;have d4:=zV 59 (.int .i64 n) (ah 4 rfl rfl _ rfl);have e4:=zq d4;have d8:=zV 63 (.agg #[.string SA,.string SB]) (ah 8 rfl rfl _ rfl);have e8:=zq d8;clear hsz hold ah;refine ai rfl (ag rfl) ?_;obtain⟨_,hsz,hbx⟩:=hc;refine Gh λK hK=>?_
    go_simp;refine(HLD.out W).mono ?_;rintro e w' ⟨v',rfl,hr,hb'⟩;exact hK _ _ (DK.call hbx hb') ⟨v',rfl,hr⟩
   try case s10=>
    intro a W hc hsz hold ah;have x9:=ah 9 rfl rfl _ rfl;clear hsz hold ah;refine ai rfl (ag rfl) ?_;obtain⟨v',hv,hF⟩:=x9;replace hv:a.tmps.getD 64 undef=.tuple #[aN cl fin v',.int .i64 q,.int .i64 code]:=hv;have hw:=zq hv;unfold aN at hv hw;refine ak (v:=.tuple #[aN cl fin v',.int .i64 q,.int .i64 code]) (DK.refl hc.2.2) ⟨v',rfl,hF⟩ λK hK=>?_
    unfold aN at hK;go_simp;exact hK
   try case s11=>
    intro a W hc hsz hold ah;have x10:=ah 10 rfl rfl _ rfl;clear hsz hold ah;refine ai rfl (ag rfl) ?_;obtain⟨v',hv,hF⟩:=x10;replace hv:a.tmps.getD 54 undef=.tuple #[aN cl fin v',.int .i64 q,.int .i64 code]:=hv;have hw:=zq hv;unfold aN at hv hw;refine ak (v:=aN cl fin v') (DK.refl hc.2.2) ⟨v',rfl,hF⟩ λK hK=>?_
    unfold aN at hK;go_simp;exact hK
   try case s12=>
    intro a W hc hsz hold ah;have x10:=ah 10 rfl rfl _ rfl;clear hsz hold ah;refine ai rfl (ag rfl) ?_;obtain⟨v',hv,hF⟩:=x10;replace hv:a.tmps.getD 54 undef=.tuple #[aN cl fin v',.int .i64 q,.int .i64 code]:=hv;have hw:=zq hv;refine ak (v:=.int .i64 q) (DK.refl hc.2.2) rfl λK hK=>?_
    go_simp;exact hK
   try case s13=>
    intro a W hc hsz hold ah;have x10:=ah 10 rfl rfl _ rfl;clear hsz hold ah;refine ai rfl (ag rfl) ?_;obtain⟨v',hv,hF⟩:=x10;replace hv:a.tmps.getD 54 undef=.tuple #[aN cl fin v',.int .i64 q,.int .i64 code]:=hv;have hw:=zq hv;refine ak (v:=.int .i64 code) (DK.refl hc.2.2) rfl λK hK=>?_
    go_simp;exact hK
   try case s16=>
    intro a W hc hsz hold ah;have d15:=zV 69 (.pointer (some ⟨p,4,none⟩)) (ah 15 rfl rfl _ rfl);have x11:=ah 11 rfl rfl _ rfl;clear hsz hold ah;refine ai rfl (ag rfl) ?_;obtain⟨v',hv,hF⟩:=x11;replace hv:a.tmps.getD 65 undef=aN cl fin v':=hv;obtain⟨_,_,c0,f0,t0,hbx⟩:=hc;obtain⟨a6,c6,rfl,_⟩:=dU.form hF;unfold aN at hv;have y4:=hbx.cell (i:=4) rfl;have y5:=hbx.cell (i:=5) rfl;have y6:=hbx.cell (i:=6) rfl;have hf:=hbx.free;have hlt:=hbx.lt;have hst:=DK.store (cl:=cl) (fin:=fin) (l:=l) hbx hF;refine Gi (v:=undef) hst.1 hst.2 λK hK=>?_
    clear hbx hst;go_simp;exact hK
   ·intro a W hC hd hsz hold hval;obtain⟨G,hG,ha⟩:=dK [54,55,56,57,58,59,60,61,62,63,64,65,66,67,68,69] (by kernel_rfl) hd hsz hold;rw[ha];clear ha hG hd hsz hold;simp only[cZ,Ym,List.set];obtain⟨v',LV,Uk⟩:=hval 16 _ rfl rfl;obtain⟨hfr,_,_⟩:=hC;have ail:l.length<=110:=by have:=HVL.out.2.2.1;omega
    obtain⟨av9,cv9,rfl,_⟩:=dU.form Uk;have HCP:=zH (Ed cl fin (.slice av9 l.length cv9) l W Uk ail);unfold afw aN at HCP;obtain⟨rfl,rfl,rfl,rfl⟩:=HEQ.out;have HFR:=zH hfr;have akK:=zH LV;have y4:=LV.cell (i:=4) rfl;have y5:=LV.cell (i:=5) rfl;have y6:=LV.cell (i:=6) rfl;clear hval hfr LV Uk ail afr HX9 CX;go_wp2_with fail;refine HCP.out.mono ?_;rintro e w8 ⟨v8,rfl,qj,hb8⟩;obtain⟨a8,c8,rfl⟩:=aS qj;have Uh:=akK.out.call hb8;obtain⟨w9,Md⟩:∃w9,w9=((w8.setCell ⟨p,4,none⟩ (.int .i64 cl)).setCell ⟨p,5,none⟩ (.bool fin)).setCell ⟨p,6,none⟩ (.slice a8 l.length c8):=⟨_,rfl⟩;have Oe:fB p w8 w9:=by rw[Md];exact(((fB.refl p w8).set 4 _).set 5 _).set 6 _
    have LV:=((Uh.set 4 (.int .i64 cl)).set 5 (.bool fin)).set 6 (.slice a8 l.length c8);rw[<-Md]at LV;have LY:=(zB w7.heap.size w7).drew;have hF9:w9.os=w7.os/\w9.tape=w7.tape/\w9.output=w7.output/\w7.heap.size<=w9.heap.size/\∀b,b<w7.heap.size->b≠p->w9.heap[b]? = w7.heap[b]?:=by obtain⟨f1,f2,f3,f4,f5⟩:=HFR.out;refine⟨Oe.os.trans (hb8.os.trans (f1.trans LY.os)),Oe.tape.trans (hb8.tape.trans (f2.trans LY.tape)),Oe.output.trans (hb8.output.trans (f3.trans LY.output)),by rw[Oe.size];exact zT (zT LY.size f4) hb8.size,λb h1 h2=>(Oe.block b h2).trans ((hb8.block b (zL h1 (zT LY.size f4))).trans ((f5 b (zL h1 LY.size) h2).trans (LY.block b h1)))⟩
    have hpW:p<W.heap.size:=akK.out.lt;have hWs:w7.heap.size<=W.heap.size:=zT LY.size HFR.out.2.2.2.1;have adl:w9.ownsRow W.heap.size 94 7 (.slice a8 l.length c8) l.length (fl l):=yL qj λk hk=>Oe.block k (by have:=bH qj k hk;omega)
    have hf9:∀k,(Value.slice a8 l.length c8).ownBlock=some k->w7.heap.size<=k/\k<w9.heap.size:=λk hk=>⟨zT hWs (bH qj k hk),by rw[Oe.size];exact oP qj k hk⟩
    have hd9:=HD7.out.aeA (cl:=cl) (fin:=fin) hF9.2.2.2.1 hF9.2.2.2.2 LV (bQ.bg adl) hf9;have ht9:=Ch.aeA zO.out hF9 (λk hk=>(hf9 k hk).1);have amn:Bx w9 b4 58 aX:=(hF9.2.2.2.2 b4 aiZ.out.lt abP.out.1).trans aiZ.out;have HFV:Hid (∀k,(Value.slice a8 l.length c8).ownBlock=some k->w0.heap.size<=k/\¬ R2 k/\¬ X2 k/\k≠p/\k≠b4):=zH λk hk=>by
     have h1:=(hf9 k hk).1;have hlo:=HD7.out.lo;refine⟨zT zO.out.size h1,λh=>?_,λh=>?_,λh=>?_,λh=>?_⟩
     ·have:=hlo k (.inr (.inl h));omega
     ·have:=hlo k (.inl (.inr (.inl h)));omega
     ·have:=HD7.out.box.lt;omega
     ·have:=aiZ.out.lt;omega
    have HP0:Hid (PwL w0 X0 R0 p pm b4 W.heap.size E EX X2 R2 (({D with M:=M,ca:=[] }:PD).zA cl fin l) M l (.slice a8 l.length c8) 0 w9):=zH ⟨by rw[FX];exact hd9,by rw[FX];exact adl,ht9,amn⟩;have z4:=Uh.cell (i:=4) rfl;have z5:=Uh.cell (i:=5) rfl;have z6:=Uh.cell (i:=6) rfl;have zf:=Uh.free;have zl:=Uh.lt;have HW9:=zH Md.symm;have k6:=hd9.box.cell (i:=6) rfl;have HMO:Hid (M.Ok (N+65)):=zH (by rw[HME.out];exact(FW HO.out m).2.2.1);have anO:Hid (abV {(({D with M:=M,ca:=[] }:PD).zA cl fin l) with tr:=yQ M l}):=zH (by
     have:=(aeo HO.out m).ok.fit.zA;unfold pwP at this;rw[<-HRL.out,<-HME.out]at this;exact this)
    have HPD:Hid (pwD m D=qK {(({D with M:=M,ca:=[] }:PD).zA cl fin l) with tr:=yQ M l}):=zH (by unfold pwD pwP;rw[<-HRL.out,<-HME.out];rfl);clear qj hb8 Uh Oe LV LY hF9 hpW hWs adl hf9 hd9 ht9 amn Md y4 y5 y6;go_upto_region 11 with (fail)
    rw[HW9.out];clear z4 z5 z6 zf zl;go_wp2_with fail
    go_loopw [84] (λvi wr=>∃j:Nat,j<=l.length/\vi=.int .i64 j/\Hid (PwL w0 X0 R0 p pm b4 W.heap.size E EX X2 R2 (({D with M:=M,ca:=[] }:PD).zA cl fin l) M l (.slice a8 l.length c8) j wr)) (λvi _=>l.length-(RowKit.intOf vi).toNat)
    case atStart=>exact⟨0,by omega,rfl,HP0⟩
    case round=>
     obtain⟨j,hj,rfl,HP⟩:=hrel;by_cases hlt:j<l.length
     ·have hP:=HP.out;obtain⟨g,cg,hvg,hgB,hgl⟩:=QA hP.own (by omega);simp only[YT,true_and]at hvg;obtain⟨rfl,rfl⟩:=hvg;obtain⟨f1,f2,f3,f4,f5⟩:=HFV.out g rfl;have hix:∀W,(Instr.indexAt 35 (.slice (some ⟨g,0,none⟩) l.length c8) (.int .i64 (j:Int))).run prog W=.ok (.pointer (some ⟨g,j*7,none⟩)) W:=λW=>
       (aB (P:=prog) underlying35 sizeTrack (cap:=c8) (rfl:some (⟨g,0,none⟩:Addr)=_) hlt _ rfl W).trans (by rw[Yf])
      have hlen:=JL M l hj;have ho':wr.ownsRow W.heap.size 94 7 (.slice (some ⟨g,0,none⟩) (jf M l j).length c8) (jf M l j).length (fl (jf M l j)):=by rw[hlen];exact hP.own
      have HRC:=zH (aaU (i:=j) (show fF wr pm M X2 R2 from hP.d.med) HMO.out.n.2 (hP.d.box.cell (i:=2) rfl) f4 f3 f2 (jf M l j) ho' (by rw[hlen];exact hlt) (by rw[QW M l hlt];exact abz HVL.out hlt));have HEL:Hid ((jf M l j).set j (lV M (T.tr (jf M l j) j))=jf M l (j+1)):=zH (by rw[QW M l hlt];exact U2 M l hlt);have IY:=zH hlt;have HJ:=zH hj;have HF5:=zH (And.intro f1 (And.intro f2 f5));have k6:=hP.d.box.cell (i:=6) rfl;clear hP hgB hgl f1 f2 f3 f4 f5 hlen ho';go_wp2_with fail;refine HRC.out.mono ?_;rintro e w' ⟨rfl,hrc⟩;rw[HEL.out]at hrc;have hl1:=JL M l (show j+1<=l.length from IY.out);have hown':w'.ownsRow W.heap.size 94 7 (.slice (some ⟨g,0,none⟩) l.length c8) l.length (fl (jf M l (j+1))):=by have:=hrc.own;rw[hl1]at this;exact this
      have HP':Hid (PwL w0 X0 R0 p pm b4 W.heap.size E EX X2 R2 (({D with M:=M,ca:=[] }:PD).zA cl fin l) M l (.slice (some ⟨g,0,none⟩) l.length c8) (j+1) w'):=zH
       ⟨HP.out.d.Ns HF5.out.2.1 hrc.gr (bQ.bg (l:=jf M l (j+1)) (by rw[hl1];exact hown')),hown',Ch.Ns HP.out.ch hrc.gr HF5.out.1,(hrc.gr.block b4 HP.out.x4.lt λe=>HF5.out.2.2 (zs e).symm).trans HP.out.x4⟩
      clear hrc hown' hl1;have hlt:=IY.out;have PR:l.length<=99:=HVL.out.2.2.1;go_wp2_with fail;go_roundw;case rel=>exact⟨j+1,by omega,by go_num,HP'⟩
      case measure=>simp[RowKit.intOf];omega
     ·obtain rfl:j=l.length:=by omega
      have hd:=HP.out.d;rw[aaT]at hd;have KG:=zH (Nv hd anO.out (Ch.refl (X:=DX p (.slice none 0 0) EX X2) (R:=DR (.slice a8 l.length c8) R2)));clear hd;go_wp2_with fail;refine KG.out.mono ?_;rintro e w10 ⟨rfl,hd10,ajJ⟩;have haw:∀k,DX p (.slice none 0 0) EX X2 k\/DR (.slice a8 l.length c8) R2 k->k≠b4:=λk hk=>by
       rcases hk with (h1|h1|h1|h1)|h1|h1
       ·rw[h1];exact Vb abP.out.1
       ·exact abP.out.2 k (.inl h1)
       ·exact abP.out.2 k (.inr (.inl h1))
       ·cases h1
       ·exact abP.out.2 k (.inr (.inr h1))
       ·exact(HFV.out k h1).2.2.2.2
      have hx7:Bx w10 b4 58 aX:=(qR ajJ HP.out.x4.lt haw).2.trans HP.out.x4;have ank:Hid (iY w10 p (pwD m D) pm none (.slice a8 l.length c8) (.slice none 0 0) E EX X2 R2):=zH (by rw[HPD.out];exact hd10);have anN:=zH (HP.out.ch.trans ajJ);have am8:=zH haw;unfold aX at hx7;have t0:=hx7.cell (i:=0) rfl;have t1:=hx7.cell (i:=1) rfl;have t2:=hx7.cell (i:=2) rfl;have t3:=hx7.cell (i:=3) rfl;have t4:=hx7.cell (i:=4) rfl;have t5:=hx7.cell (i:=5) rfl;have tf:=λi=>hx7.free i
      clear hx7 hd10 ajJ haw;go_wp2_with fail;exact zr (v:=jg Rp.ok (.slice none 0 0) (.slice none 0 0)) (by simp[results,results84,go_sem,jg,Rp.ok,Rp.sense,t0,t1,t2,t3,t4,t5]) rfl ⟨_,_,X2,R2,rfl,ji ank.out am8.out _ _ _ _ _ _,lX anN.out HB4.out.2.2 _ _ _ _ _ _,(QS HO.out m).1.ok.md⟩
theorem Uz(n i k:Nat):qE n [] i k=false:=by
 have e:∀m,ed [] m = []:=λm=>kP (λf=>by
  have:lT [] f 28 = []:=by simp[lT,pU]
  rw[yg,this];decide) m
 simp[qE,sD,e]
theorem gG.gone{M:aA}(h:gG M){i:Nat}(hi:i<M.n):M.gone i = []:=by
 have hz:M.tY i=λ_=>false:=by funext k;unfold aA.tY;rw[(h.sec i hi).er k,h.scr,Uz];rfl
 unfold aA.gone;rw[hz];simp
theorem ajf{w:World}{p pm N:Nat}{M:aA}{X R:Nat->Prop}(hm:fF w pm M X R)(ho:M.Ok N)(hw:gG M)(c2:w.cell? ⟨p,2,none⟩=some (.pointer (some ⟨pm,0,none⟩)))(c3:w.cell? ⟨p,3,none⟩=some (.pointer none)){i:Nat}(hi:i<M.n):
 Calls prog 31 #[.pointer (some ⟨p,0,none⟩),.int .i64 (i:Nat)] w λe w'=>e=.returned (.string (str (Jq M i)))/\Below w.heap.size w w':=by
 have hP:Calls prog 43 #[.pointer (some ⟨p,0,none⟩),.int .i64 (i:Nat)] w λe w'=>e=.returned (.int .i64 (i:Nat))/\Below w.heap.size w w':=(wY c3 (i:Nat)).mono λe w' h=>⟨h.1,by rw[<-h.2];exact zB _ _⟩
 have h4:=ho.n.2;by_cases h0:(M.sec i).st=0
 ·have e:Jq M i = []:=by unfold Jq imS;rw[zj h0]
  rw[e];exact ZB hm ho c2 hP hi h0
 ·by_cases h1:(M.sec i).st=1
  ·obtain⟨d,hd,hr⟩:=(hw.sec i hi).r h1;have e:Jq M i=d:=by unfold Jq imS;rw[zi h0,zj h1,hr];exact W9 (by omega) (by omega) hd
   rw[e];refine OH hm ho c2 hP ⟨hi,hd,by omega,by omega,h1,hr,λk _=>(hw.sec i hi).ch k,0,?_⟩;rw[hw.gone hi];rfl
  ·have e:Jq M i = [33]:=by unfold Jq imS;rw[zi h0,zi h1]
   rw[e];exact acd hm ho c2 hP hi (by omega)
section
variable {w w0:World} {p pm N:Nat} {D:PD} {vt vc:Value} {E:World->Prop} {EX Xm Rm X0 R0:Nat->Prop}
theorem iY.blk(h:iY w p D pm none vt vc E EX Xm Rm)(ho:kF D N){a:Nat}(ha:a<D.n):Calls prog 31 #[.pointer (some ⟨p,0,none⟩),.int .i64 (a:Nat)] w λe w'=>e=.returned (.string (str (Jq D.M a)))/\Below w.heap.size w w':=
 ajf h.med ho.ok.md ho.md (h.cells).2.2.1 (h.cells).2.2.2.1 (by rw[ho.n];exact ha)
theorem agH(h:iY w p D pm none vt vc E EX Xm Rm)(ho:kF D N):
 Calls prog 12 #[.pointer (some ⟨p,0,none⟩)] w λe w'=>∃g,e=.returned (.slice (some ⟨g,0,none⟩) D.n D.n)/\w'.ownsRow w.heap.size 9 1 (.slice (some ⟨g,0,none⟩) D.n D.n) D.n (fH uY (Ai (Jq D.M) D.n))/\Below w.heap.size w w':=
 adt (Jq D.M) (by have:=ho.ok.md.n.2;rw[ho.n]at this;exact this) (h.cells).2.1 λi hi W hW=>(h.below hW).blk ho hi
theorem zW.up{N K:Nat}{r:Rp}{D:PD}{df:Option Addr}{e:Ending}{w':World}(h:zW w0 X0 R0 p pm df E EX N r D e w')(hk:N<=K):zW w0 X0 R0 p pm df E EX K r D e w':=by obtain⟨vt,vc,X2,R2,he,hd,hc,ho⟩:=h;exact⟨vt,vc,X2,R2,he,hd,hc,ho.mono hk⟩
theorem RP.up{N K:Nat}{r:Rp}{D:PD}{df:Option Addr}{e:Ending}{w':World}(h:RP w0 X0 R0 p pm df E EX N r D e w')(hk:N<=K):RP w0 X0 R0 p pm df E EX K r D e w':=by obtain⟨v,vt,vc,X2,R2,he,hv,hd,hc,ho⟩:=h;exact⟨v,vt,vc,X2,R2,he,hv,hd,hc,ho.mono hk⟩
theorem aff(aj:Int)(L:List (List UInt8))(r:je):(RI aj L r D).1.bl = []/\(RI aj L r D).1.tr = []:=by
 unfold RI;repeat (first|(split;· exact⟨rfl,rfl⟩)|(split;· unfold GG qZ;split <;> (try split) <;> exact⟨rfl,rfl⟩))
 exact⟨rfl,rfl⟩
theorem LH(aj:Int)(b:Bool):(qZ aj b).bl = []/\(qZ aj b).tr = []:=by unfold qZ;split <;> exact⟨rfl,rfl⟩
theorem ad2(K:Int->Int)(r:je):(Qv K r D).1.bl = []/\(Qv K r D).1.tr = []:=by
 unfold Qv;split
 ·exact LH _ _
 ·exact⟨rfl,rfl⟩
theorem Nh(cnt:Int):(UW cnt D).1.bl = []/\(UW cnt D).1.tr = []:=by unfold UW;split <;> exact⟨rfl,rfl⟩
end
def bF(c:UInt8):List UInt8:=List.replicate 2048 c
theorem iH(c:UInt8):(bF c).length=2048:=Yq
def Sv(D:PD)(q:Nat)(cl:Int)(fin:Bool)(l:List T.ax):Prop:=E1.Oi D.n D.sA D.sB q cl fin l\/E1.Oi D.n D.sB D.sA q cl fin l
theorem Sv.sav{D:PD}{q:Nat}{cl:Int}{fin:Bool}{l:List T.ax}(h:Sv D q cl fin l)(hv:T.aK D.n D.cl D.fin D.tr)(hq:q<1000):Sv (qK D) (q+1) D.cl D.fin D.tr:=by
 rcases h with h|h
 ·obtain⟨h1,_,h3,_⟩:=h.save hv hq;have e:vM D=(D.sA,E1.dV ((q+1:Nat):Int) D.cl D.fin D.tr):=by unfold vM;rw[h1];rfl
  right;unfold qK;rw[e];exact h3
 ·obtain⟨_,h2,h3,_⟩:=h.save hv hq;have e:vM D=(E1.dV ((q+1:Nat):Int) D.cl D.fin D.tr,D.sB):=by unfold vM;rw[h2];rfl
  left;unfold qK;rw[e];exact h3
theorem Sv.aoO{D:PD}{q:Nat}{cl cl':Int}{fin fin':Bool}{l l':List T.ax}(h:Sv D q cl fin l)(hv:T.aK D.n D.cl D.fin D.tr)(hq:q<1000)(e1:D.cl=cl')(e2:D.fin=fin')(e3:D.tr=l'):Sv (qK D) (q+1) cl' fin' l':=by subst e1 e2 e3;exact h.sav hv hq
theorem Sv.load{D:PD}{q:Nat}{cl:Int}{fin:Bool}{l:List T.ax}(h:Sv D q cl fin l):(E1.lZ D.n D.sA D.sB).1=⟨cl,fin,l,0⟩:=by
 rcases h with h|h
 ·rw[h.load.1]
 ·rw[h.load.2]
structure AwS (D:PD) (N q:Nat) (l ls:List T.ax) (M:aA) (ca:List (Int×List UInt8)):Prop where
 ok:kF D N
 n:D.n=100
 cl:D.cl=0
 fin:D.fin=false
 tr:D.tr=l
 sv:Sv D q 0 false ls
 m:D.M=M
 ca:D.ca=ca
theorem AwS.v{D:PD}{N q:Nat}{l ls:List T.ax}{M:aA}{ca:List (Int×List UInt8)}(h:AwS D N q l ls M ca):T.aK 100 0 false l:=by have:=h.ok.ok.v;rw[h.n,h.cl,h.fin,h.tr]at this;exact this
def ta0:T.ax:=⟨1,1,0,50,0,0,0⟩
def ta1:T.ax:=⟨1,1,0,50,2,1,0⟩
def ta2:T.ax:=⟨1,1,0,50,4,1,0⟩
theorem ag2{n:Nat}(h1:1<=n)(h2:n<=4096):kF (UD n) 0:=by
 have hs:∀i,ai5 i (jX 1 n 1 |>.sec i):=λi=>by rw[wS];exact⟨by decide,λ_=>rfl,λh=>absurd h (by decide),λ_=>rfl,λ_=>rfl⟩
 have h0:kF (Jw n) 0:=⟨Qp h1 h2,⟨rfl,rfl,rfl,λi _=>hs i⟩,by simp[Jw,jX,aA.n],λh=>by cases h⟩;exact h0.sav.1
theorem ajc:AwS (UD 100) 0 0 [] [] (jX 1 100 1) []:=by
 refine⟨ag2 (by decide) (by decide),rfl,rfl,rfl,rfl,?_,rfl,rfl⟩;obtain⟨h1,h2⟩:=E1.U6 (cap:=100) (by decide) (by decide);have e:vM (Jw 100)=(E1.dV ((0:Nat):Int) 0 false [],[]):=by unfold vM;show(if (E1.mi 100 [] [] 0 false []).2=0 then(E1.mi 100 [] [] 0 false []).1 else _)=_;rw[h1];rfl
 left;unfold UD qK;rw[e];exact h2
theorem ajd{D:PD}{N q:Nat}{M:aA}(h:AwS D N q [] [] M [])(hq:q+2<1000):(nI 3 0 50 0 0 [] D).1=Rp.ok/\AwS (nI 3 0 50 0 0 [] D).2 (N+65) (q+2) [ta0] [ta0] M []:=by
 have hn:=(xZ h.ok 3 0 50 0 0 []).1;have hr:bZ D.n D.cl D.fin D.tr 50 0=⟨0,false,[ta0],0⟩:=by rw[h.n,h.cl,h.fin,h.tr];unfold bZ;have hv:T.az 100 0 false []=true:=T.bz.2 h.v;rw[zi (by show ¬ T.az 100 0 false []=false;rw[hv];decide),zi (by decide),zi (XE ⟨by decide,by decide,by decide,λh=>absurd h (by decide)⟩),zi (by simp),zi (by simp[T.AY])];rfl
 have e:nI 3 0 50 0 0 [] D=(zy D,ZI D 0 false [ta0]):=by unfold nI;rw[zi (by decide),zi (by decide),zi (by decide),zj rfl,hr];unfold Qv;rw[zj rfl]
 rw[e]at hn ⊢;have hfl:kM D.M D.ca=(D.M,0,true):=by rw[h.ca];rfl
 refine⟨by show zy D=Rp.ok;unfold zy;rw[hfl];rfl,hn,h.n,rfl,rfl,rfl,?_,?_,rfl⟩
 ·have s1:Sv (vO D) (q+1) D.cl D.fin D.tr:=by have:Sv {D with M:=(kM D.M D.ca).1,ca:=[]} q 0 false []:=h.sv;exact this.sav h.ok.ok.v (by omega)
  have s2:Sv ((vO D).zA 0 false [ta0]) (q+1) D.cl D.fin D.tr:=s1;exact s2.sav (hn.ok.v) (by omega)
 ·show(kM D.M D.ca).1=M;rw[hfl,h.m]
theorem ab3{D:PD}{N q:Nat}{M:aA}{t:T.ax}{ls:List T.ax}(h:AwS D N q [t] ls M [])(aj:Int)(L:List (List UInt8))(hst:t.dZ≠2)(hnx:t.nx=aj)(hpk:t.pk=0)(hL:L.length=2)(h8:∀i,i<L.length->(aJ [] L i).length=2048)(hrm:t.nx+2<=t.st+t.len):
 (nI 1 aj 0 0 0 L D).1=Rp.ok/\AwS (nI 1 aj 0 0 0 L D).2 (N+65) q [T.grown t 2] ls M [(aj,aJ [] L 0),(aj+1,aJ [] L 1)]:=by
 have hn:=(xZ h.ok 1 aj 0 0 0 L).1;have hv:T.az 100 0 false [t]=true:=T.bz.2 h.v;have hr:aW D.n D.cl D.fin D.tr aj L.length=⟨0,false,[T.grown t 2],0⟩:=by
  rw[h.n,h.cl,h.fin,h.tr,hL];have hf:lF [t] aj [t].length=some 0:=by show(if (T.tr [t] 0).dZ≠2/\(T.tr [t] 0).nx=aj then some 0 else none)=some 0;rw[zj ⟨hst,hnx⟩]
  show aW 100 0 false [t] aj 2=_;rw[xM hv hf];have e0:T.tr [t] 0=t:=rfl;rw[e0,zi (XE ⟨by decide,by rw[hpk];decide,by rw[hpk];decide,λh=>by rw[hpk]at h;exact absurd h (by decide)⟩),zi (by omega)];rfl
 have hg:VA L:=⟨by omega,by omega,xJ λi hi=>by simp[nT,h8 i hi]⟩;have e:nI 1 aj 0 0 0 L D=((GG L.length D).1,({(GG L.length D).2 with ca:=(GG L.length D).2.ca++oJ aj L L.length }:PD).zA 0 false [T.grown t 2]):=by unfold nI;rw[zi (by decide),zj rfl,hr,Zj hg h.fin,zj rfl]
 have em:GG L.length D=(Rp.ok,D):=by unfold GG;rw[h.ca,hL,zi (by simp)]
 rw[em]at e;rw[e]at hn ⊢;refine⟨rfl,hn,h.n,rfl,rfl,rfl,h.sv,h.m,?_⟩;show D.ca++oJ aj L L.length=_;rw[h.ca,hL];simp[oJ,Xf]
theorem ajb{D:PD}{N q:Nat}{M:aA}{t:T.ax}{ls:List T.ax}{ca:List (Int×List UInt8)}(h:AwS D N q [t] ls M ca)(aj:Int)(L:List (List UInt8))(hnx:t.nx≠aj)(h1:1<=L.length)(h2:L.length<=64)(h8:∀i,i<L.length->(aJ [] L i).length=2048):nI 1 aj 0 0 0 L D=(Rp.sense 6 aj,D):=by
 have hv:T.az 100 0 false [t]=true:=T.bz.2 h.v;have hr:aW D.n D.cl D.fin D.tr aj L.length=je.bad 2:=by rw[h.n,h.cl,h.fin,h.tr];refine xK hv ?_;show(if (T.tr [t] 0).dZ≠2/\(T.tr [t] 0).nx=aj then some 0 else none)=none;rw[zi λhh=>hnx hh.2]
 have hg:VA L:=⟨h1,h2,xJ λi hi=>by simp[nT,h8 i hi]⟩;unfold nI;rw[zi (by decide),zj rfl,hr,Zj hg h.fin,zi (by simp[je.bad]),zj (show(je.bad 2).code=2 from rfl)]
theorem XQ{M:aA}(h:gG M){i:Nat}(hi:i<M.n)(h0:(M.sec i).st=0)(d:List UInt8):vN M ((i:Nat),d)=(M.put i {M.sec i with st:=1,cnt:=(M.sec i).cnt+1,raw:=T7.rec (i:Nat) d,ch:=λ_=>0},true):=by
 have e:T7.uy M ((i:Nat),d)=(0,M.put i {M.sec i with st:=1,cnt:=(M.sec i).cnt+1,raw:=T7.rec (i:Nat) d,ch:=λ_=>0}):=by unfold T7.uy aA.record;dsimp only;rw[zj (by omega),zj (yS _ _),Yw,h.write 1 _ hi,zi (XE h0)]
 unfold vN;rw[e];rfl
structure Ox (M:aA) (k:Nat) (b:Nat->List UInt8):Prop where
 wo:gG M
 n:M.n=100
 r:∀i,i<k->(M.sec i).st=1/\(M.sec i).raw=T7.rec (i:Nat) (b i)
 z:∀i,k<=i->(M.sec i).st=0
theorem Ox.next{M:aA}{k:Nat}{b:Nat->List UInt8}(h:Ox M k b)(hk:k<100)(hb:(b k).length=2048):(vN M ((k:Nat),b k)).2=true/\Ox (vN M ((k:Nat),b k)).1 (k+1) b:=by
 have hkn:k<M.n:=by rw[h.n];exact hk
 rw[XQ h.wo hkn (h.z k (zl _))];refine⟨rfl,?_⟩;have hw:=h.wo.uy ((k:Nat),b k) hb;have e:(T7.uy M ((k:Nat),b k)).2=M.put k {M.sec k with st:=1,cnt:=(M.sec k).cnt+1,raw:=T7.rec (k:Nat) (b k),ch:=λ_=>0 }:=by show(vN M ((k:Nat),b k)).1=_;rw[XQ h.wo hkn (h.z k (zl _))]
 rw[e]at hw;refine⟨hw.1,hw.2.1.trans h.n,λi hi=>?_,λi hi=>?_⟩
 ·by_cases e2:i=k
  ·subst e2;rw[aA.jY _ _ hkn];dsimp only;exact⟨rfl,rfl⟩
  ·rw[aA.kR _ _ e2];exact h.r i (by omega)
 ·rw[aA.kR _ _ (by omega)];exact h.z i (by omega)
theorem agq{M:aA}{x y:Int×List UInt8}(h1:(vN M x).2=true)(h2:(vN (vN M x).1 y).2=true):kM M [x,y]=((vN (vN M x).1 y).1,0,true):=by
 unfold kM TU;rw[Ve,Ve,List.foldl_nil];have e1:TV vN (M,0,true) x=((vN M x).1,0,true):=by unfold TV;rw[zj h1]
 rw[e1];unfold TV;rw[zj h2]
theorem agp{M:aA}{x:Int×List UInt8}(h1:(vN M x).2=true):kM M [x]=((vN M x).1,0,true):=by unfold kM TU;rw[Ve,List.foldl_nil];unfold TV;rw[zj h1]
theorem afB{D:PD}{N q:Nat}{M:aA}{l ls:List T.ax}{x y:Int×List UInt8}(h:AwS D N q l ls M [x,y])(h1:(vN M x).2=true)(h2:(vN (vN M x).1 y).2=true)(hq:q+1<1000):
 (nI 2 0 0 0 0 [] D).1=Rp.ok/\AwS (nI 2 0 0 0 0 [] D).2 (N+65) (q+1) l l (vN (vN M x).1 y).1 []:=by
 have hn:=(xZ h.ok 2 0 0 0 0 []).1;have e:nI 2 0 0 0 0 [] D=(zy D,vO D):=by unfold nI;rw[zi (by decide),zi (by decide),zj rfl]
 rw[e]at hn ⊢;have hfl:kM D.M D.ca=((vN (vN M x).1 y).1,0,true):=by rw[h.m,h.ca];exact agq h1 h2
 refine⟨by show zy D=Rp.ok;unfold zy;rw[hfl];rfl,hn,h.n,h.cl,h.fin,h.tr,?_,?_,rfl⟩
 ·have:Sv {D with M:=(kM D.M D.ca).1,ca:=[]} q 0 false ls:=h.sv;exact this.aoO h.ok.ok.v (by omega) h.cl h.fin h.tr
 ·show(kM D.M D.ca).1=_;rw[hfl]
theorem Qd{M:aA}{a:Nat}(ha:(M.eF ((0:Int)+(a:Nat))).1≠0):∀k,a+1<=k->(∀j,a+1<=j->j<k->(M.eF ((0:Int)+(j:Nat))).1=0)->jo M 0 k=a+1
 |0,h,_=>by omega
 | k+1,h,hz=>by
   show(if (M.eF ((0:Int)+(k:Nat))).1=0 then jo M 0 k else k+1)=a+1;by_cases e:k=a
   ·subst e;rw[zi ha]
   ·rw[zj (hz k (by omega) (by omega))];exact Qd ha k (by omega) λj h1 h2=>hz j h1 (by omega)
def bA(i:Nat):List UInt8:=if i=0 then bF 97 else if i=1 then bF 98 else bF 99
theorem ab4{D:PD}{N q:Nat}{M:aA}{l:List T.ax}{d:List UInt8}(h:AwS D N q l [ta1] M [(2,bA 2),(3,d)])(hs:Ox M 2 bA)(hq:q+1<1000):
 (nI 8 0 1 0 0 [] D).1=Rp.ok/\kF (nI 8 0 1 0 0 [] D).2 (N+65)/\(nI 8 0 1 0 0 [] D).2.n=100/\(nI 8 0 1 0 0 [] D).2.tr = [ta2]/\
  ∀i,i<100->Jq (nI 8 0 1 0 0 [] D).2.M i=if i<3 then bA i else if i=3 then [33] else []:=by
 have hn:=(xZ h.ok 8 0 1 0 0 []).1;have hmin:min (1:Int).toNat D.ca.length=1:=by rw[h.ca];rfl
 have e:nI 8 0 1 0 0 [] D=(Rp.ok,pwD 1 D):=by unfold nI;rw[zi (by decide),zi (by decide),zi (by decide),zi (by decide),zi (by decide),zi (by decide),zi (by decide),zi (by decide),zj rfl];unfold UW;rw[zi (by decide),hmin]
 rw[e]at hn ⊢;obtain⟨r1,r2⟩:=hs.next (k:=2) (by decide) (iH _);obtain⟨M2,hM2⟩:∃M2,M2=(vN M (((2:Nat):Int),bA 2)).1:=⟨_,rfl⟩;rw[<-hM2]at r2;have ht:M2.uA 3=(0,M2.put 3 {M2.sec 3 with st:=2,cnt:=(M2.sec 3).cnt+1,raw:=[],ch:=λ_=>0}):=by
  unfold aA.uA;have hn3:(3:Nat)<M2.n:=by rw[r2.n];decide
  rw[zj (by rw[r2.n];decide)];show M2.write 3 2 []=_;rw[r2.wo.write 2 [] hn3,zi (XE (r2.z 3 (zl _)))]
 have hpm:BO 1 D=M2.put 3 {M2.sec 3 with st:=2,cnt:=(M2.sec 3).cnt+1,raw:=[],ch:=λ_=>0 }:=by unfold BO;rw[h.ca,h.m,zj (by simp)];have e1:kM M [((2:Int),bA 2)]=((vN M (((2:Nat):Int),bA 2)).1,0,true):=agp r1;show((kM M [((2:Int),bA 2)]).1.uA 3).2=_;rw[e1,<-hM2,ht]
 have h3n:3<M2.n:=by rw[r2.n];decide
 have hst:∀i,i<100->(BO 1 D).eF ((0:Int)+(i:Nat))=((((BO 1 D).sec i).st:Int),0):=λi hi=>by unfold aA.eF;rw[zj (by rw[hpm,aA.yP,r2.n];omega)];simp
 have hs3:((BO 1 D).sec 3).st=2:=by rw[hpm,aA.jY _ _ h3n]
 have hso:∀i,i≠3->(BO 1 D).sec i=M2.sec i:=λi hi=>by rw[hpm,aA.kR _ _ hi]
 have hrl:(E1.lZ D.n D.sA D.sB).1=⟨0,false,[ta1],0⟩:=h.sv.load;refine⟨rfl,hn,h.n,?_,λi hi=>?_⟩
 ·show yQ (BO 1 D) (E1.lZ D.n D.sA D.sB).1.l = [ta2];rw[hrl];show[lV (BO 1 D) ta1] = [ta2];have hl:jo (BO 1 D) 0 50=4:=Qd (a:=3) (by rw[hst 3 (by decide),hs3];decide) 50 (by decide) λj h1 h2=>by rw[hst j (by omega),hso j (by omega)];show(((M2.sec j).st:Nat):Int)=0;rw[r2.z j (by omega)];rfl
  have hx:mf (BO 1 D) ta1=4:=by unfold mf;rw[zi (by decide)];show(0:Int)+(jo (BO 1 D) 0 50:Nat)=4;rw[hl];rfl
  unfold lV;rw[zi (by decide),hx];rfl
 ·show Jq (BO 1 D) i=_;unfold Jq imS;by_cases h3:i=3
  ·subst h3;rw[zi (by rw[hs3];decide),zi (by rw[hs3];decide),zi (by decide),zj rfl]
  ·rw[hso i h3];by_cases hlt:i<3
   ·obtain⟨a1,a2⟩:=r2.r i hlt;rw[zi (by rw[a1];decide),zj a1,a2,zj hlt];exact W9 (by omega) (by omega) (by unfold bA;split <;> first|exact iH _|(split <;> exact iH _))
   ·rw[zj (r2.z i (by omega)),zi hlt,zi h3]
structure aky (s0 s1 s2 s3 s5 s6:PD):Prop where
 e0:s0=UD 100
 o0:kF s0 1000
 r1:nI 3 0 50 0 0 [] s0=(Rp.ok,s1)
 o1:kF s1 1000
 r2:nI 1 0 0 0 0 [bF 97,bF 98] s1=(Rp.ok,s2)
 o2:kF s2 1000
 r3:nI 2 0 0 0 0 [] s2=(Rp.ok,s3)
 o3:kF s3 1000
 r4:nI 1 1 0 0 0 [bF 99] s3=(Rp.sense 6 1,s3)
 r5:nI 1 2 0 0 0 [bF 99,bF 100] s3=(Rp.ok,s5)
 o5:kF s5 1000
 r6:nI 8 0 1 0 0 [] s5=(Rp.ok,s6)
 o6:kF s6 1000
 n:s6.n=100
 tr:s6.tr = [ta2]
 im:∀i,i<100->Jq s6.M i=if i<3 then bA i else if i=3 then [33] else []
theorem yM{α β:Type}{x:α×β}{a:α}(h:x.1=a):x=(a,x.2):=by rw[<-h]
theorem aja:∃s0 s1 s2 s3 s5 s6,aky s0 s1 s2 s3 s5 s6:=by
 have a0:=ajc;obtain⟨p1,a1⟩:=ajd a0 (by decide);have hL1:∀i,i < [bF 97,bF 98].length->(aJ [] [bF 97,bF 98] i).length=2048:=λi hi=>by
  match i,hi with
  |0,_=>exact iH _
  |1,_=>exact iH _
 have hL3:∀i,i < [bF 99,bF 100].length->(aJ [] [bF 99,bF 100] i).length=2048:=λi hi=>by
  match i,hi with
  |0,_=>exact iH _
  |1,_=>exact iH _
 have hL2:∀i,i < [bF 99].length->(aJ [] [bF 99] i).length=2048:=λi hi=>by
  match i,hi with
  |0,_=>exact iH _
 obtain⟨p2,a2⟩:=ab3 a1 0 [bF 97,bF 98] (by decide) rfl rfl rfl hL1 (by decide);have hs0:Ox (jX 1 100 1) 0 bA:=⟨a0.m ▸ a0.ok.md,by simp[jX,aA.n],λi hi=>by omega,λi _=>by rw[wS];rfl⟩;obtain⟨q1,hs1⟩:=hs0.next (by decide) (iH _);obtain⟨q2,hs2⟩:=hs1.next (by decide) (iH _);obtain⟨p3,a3⟩:=afB a2 q1 q2 (by decide);have a3':AwS (nI 2 0 0 0 0 [] (nI 1 0 0 0 0 [bF 97,bF 98] (nI 3 0 50 0 0 [] (UD 100)).2).2).2 _ _ [ta1] [ta1] _ []:=a3;have p4:=ajb a3' 1 [bF 99] (by decide) (by simp) (by simp) hL2;obtain⟨p5,a5⟩:=ab3 a3' 2 [bF 99,bF 100] (by decide) rfl rfl rfl hL3 (by decide);obtain⟨p6,a6,n6,t6,i6⟩:=ab4 (d:=bF 100) a5 hs2 (by decide);exact⟨_,_,_,_,_,_,rfl,a0.ok.up (by omega),yM p1,a1.ok.up (by omega),yM p2,a2.ok.up (by omega),yM p3,a3.ok.up (by omega),p4,yM p5,a5.ok.up (by omega),yM p6,a6.up (by omega),n6,t6,i6⟩
theorem JP(k l cl:Int)(fin:Bool)(ab at_:Option Addr)(n cb m ct:Nat)(W:World):(Instr.field 58 (.agg #[.int .i64 k,.int .i64 l,.slice ab n cb,.int .i64 cl,.bool fin,.slice at_ m ct]) 0).run prog W=.ok (.agg #[.int .i64 k,.int .i64 l]) W:=by kernel_rfl
theorem ahw(k l cl:Int)(fin:Bool)(ab at_:Option Addr)(n cb m ct:Nat)(W:World):(Instr.field 58 (.agg #[.int .i64 k,.int .i64 l,.slice ab n cb,.int .i64 cl,.bool fin,.slice at_ m ct]) 2).run prog W=.ok (.agg #[.int .i64 cl,.bool fin,.slice at_ m ct]) W:=by kernel_rfl
structure Ce (w:World) (p pm:Nat) (D:PD) (Q:Nat->Prop) (W:World):Prop where
 ex:∃vt vc X R,iY W p D pm none vt vc (λ_=>True) (λ_=>False) X R/\∀b,DX p vc (λ_=>False) X b\/DR vt R b->w.heap.size<=b/\¬ Q b
 bl:Below w.heap.size w W
 q:∀b,Q b->b<W.heap.size
section
variable {w W W':World} {p pm N:Nat} {D:PD} {Q:Nat->Prop}
theorem Ce.push(h:Ce w p pm D Q W)(hb:Below W.heap.size W W'):Ce w p pm D (λb=>Q b\/(W.heap.size<=b/\b<W'.heap.size)) W':=by obtain⟨⟨vt,vc,X,R,hd,ha⟩,hbl,hq⟩:=h;have hlo:=hd.lo;exact⟨⟨vt,vc,X,R,hd.below hb,λb hb'=>⟨(ha b hb').1,λhh=>hh.elim (ha b hb').2 (λh2=>by have:=hlo b hb';omega)⟩⟩,hbl.trans (hb.mono hbl.size),λb hb'=>hb'.elim (λh=>zL (hq b h) hb.size) And.right⟩
theorem Ce.sub{Q2:Nat->Prop}(h:Ce w p pm D Q W)(hq:∀b,Q2 b->Q b):Ce w p pm D Q2 W:=by obtain⟨⟨vt,vc,X,R,hd,ha⟩,hbl,hq'⟩:=h;exact⟨⟨vt,vc,X,R,hd,λb hb=>⟨(ha b hb).1,λh2=>(ha b hb).2 (hq b h2)⟩⟩,hbl,λb hb=>hq' b (hq b hb)⟩
theorem Ce.below(h:Ce w p pm D Q W)(hb:Below W.heap.size W W'):Ce w p pm D Q W':=(h.push hb).sub λb hq=>.inl hq
theorem Ce.set(h:Ce w p pm D Q W){b:Nat}(hb:Q b)(hw:w.heap.size<=b)(o:Nat)(u:Value):Ce w p pm D Q (W.setCell ⟨b,o,none⟩ u):=by obtain⟨⟨vt,vc,X,R,hd,ha⟩,hbl,hq⟩:=h;exact⟨⟨vt,vc,X,R,hd.keep (by simp) λk hk=>zh W ⟨b,o,none⟩ u k (λe=>by subst e;exact(ha _ hk).2 hb),ha⟩,hbl.setCell hw u,λk hk=>by simpa using hq k hk⟩
theorem afv.dra{n:Nat}{e:Ending}(h:afv n w e W):∃p pm,e=.returned (.tuple #[.pointer (some ⟨p,0,none⟩),.int .i64 0])/\Ce w p pm (UD n) (λ_=>False) W:=by obtain⟨p,pm,vt,vc,X,R,he,hd,hb,ha⟩:=h;exact⟨p,pm,he,⟨⟨vt,vc,X,R,hd,λb hb=>⟨ha b hb,λh=>h⟩⟩,hb,λb h=>h.elim⟩⟩
structure DoP (w:World) (p pm:Nat) (D:PD) (Q:Nat->Prop) (r:Rp) (W:World) (e:Ending) (W':World):Prop where
 v:∃vb vt,e=.returned (jg r vb vt)/\fQ W' vb r.bl/\bQ W' vt r.tr/\(∀k,vt.ownBlock=some k->W.heap.size<=k)
 d:Ce w p pm D Q W'
 k:∀b,Q b->W'.heap[b]? = W.heap[b]?
 s:W.heap.size<=W'.heap.size
theorem ZV(h:Ce w p pm D Q W)(ho:kF D N):
 Calls prog 12 #[.pointer (some ⟨p,0,none⟩)] W λe w'=>∃g,e=.returned (.slice (some ⟨g,0,none⟩) D.n D.n)/\w'.ownsRow W.heap.size 9 1 (.slice (some ⟨g,0,none⟩) D.n D.n) D.n (fH uY (Ai (Jq D.M) D.n))/\Below W.heap.size W w':=by
 obtain⟨⟨vt,vc,X,R,hd,ha⟩,hbl,hq⟩:=h;exact agH hd ho
theorem oK(c:UInt8)(W:World):Calls prog 29 #[.string ⟨#[c]⟩] W λe w'=>e=.returned (.string (str (bF c)))/\Below W.heap.size W w':=by have HR:=zH (ahx c 2048 (by decide) W);unfold bF;go_enter func29,ntmps29;go_wp2_with fail;refine HR.out.mono ?_;rintro e w' ⟨rfl,hb⟩;have HB:=zH hb;clear hb;go_wp2_with fail;go_ret;exact⟨rfl,HB.out⟩
end
end T7
end Go.Proofs.YtfnehkmhcmkhjaaGreat
