/- Parts:XKm -/
import Derived.Test.YtfnehkmhcmkhjaaGreatDvAl
import Derived.Test.YtfnehkmhcmkhjaaGreatDv41
import Derived.Test.YtfnehkmhcmkhjaaGreatDv40
set_option maxRecDepth 100000
set_option maxHeartbeats 8000000
set_option linter.unusedVariables false
namespace Go.Proofs.YtfnehkmhcmkhjaaGreat
open Tryz
namespace T7
open Go Go.RowKit C9 oH
def aaz(w0 w1:World)(r:Nat)(W:World):Prop:=W=(match r with | 0=>w0 | _=>w1)
def LX(p pm g o:Nat)(xk y s1 s2:Int)(i:Nat)(v:Value)(W:World):Prop:=match i with
 | 0=>v=.pointer (some ⟨p,0,none⟩)
 | 1=>v=.pointer (some ⟨p,0,none⟩)
 | 2=>v=.pointer (some ⟨p,2,none⟩)
 | 3=>v=.pointer (some ⟨pm,0,none⟩)
 | 4=>v=.pointer (some ⟨g,o,none⟩)
 | 5=>v=.pointer (some ⟨g,o,none⟩)
 | 6=>v=.pointer (some ⟨g,o+4,none⟩)
 | 7=>v=.int .i64 xk
 | 8=>v=.int .i64 y
 | 9=>v=.tuple #[.int .i64 s1,.int .i64 s2]
 | 10=>v=.tuple #[.int .i64 s1,.int .i64 s2]
 | 11=>v=.int .i64 s1
 | 12=>v=.int .i64 s2
 | 13=>v=.int .i64 s1
 | 14=>v=.int .i64 s2
 | _=>True
theorem Jl(p pm g o:Nat)(xk y s1 s2:Int)(i:Nat)(v:Value)(W W':World)(hR:(fun W W'=>Below W.heap.size W W') W W')(h:LX p pm g o xk y s1 s2 i v W):LX p pm g o xk y s1 s2 i v W':=by unfold LX at h ⊢;split at h <;> first | exact h
def LY(g o na:Nat)(en st xk pk e2 e3 e4 e5 e6 rn:Int)(i:Nat)(v:Value)(W:World):Prop:=match i with
 | 0=>v=.pointer (some ⟨g,o,none⟩)
 | 1=>v=.int .i64 en
 | 2=>v=.pointer (some ⟨g,o,none⟩)
 | 3=>v=.pointer (some ⟨g,o,none⟩)
 | 4=>v=.pointer (some ⟨g,o+2,none⟩)
 | 5=>v=.int .i64 st
 | 6=>v=.pointer (some ⟨g,o,none⟩)
 | 7=>v=.pointer (some ⟨g,o,none⟩)
 | 8=>v=.pointer (some ⟨g,o+4,none⟩)
 | 9=>v=.int .i64 xk
 | 10=>v=.pointer (some ⟨g,o,none⟩)
 | 11=>v=.pointer (some ⟨g,o,none⟩)
 | 12=>v=.pointer (some ⟨g,o+2,none⟩)
 | 13=>v=.int .i64 st
 | 14=>v=.int .i64 (na:Nat)
 | 15=>v=.pointer (some ⟨g,o,none⟩)
 | 16=>v=.pointer (some ⟨g,o,none⟩)
 | 17=>v=.pointer (some ⟨g,o+6,none⟩)
 | 18=>v=.int .i64 pk
 | 19=>v=.int .i64 e2
 | 20=>v=.int .i64 e3
 | 21=>v=.pointer (some ⟨g,o,none⟩)
 | 22=>v=.pointer (some ⟨g,o,none⟩)
 | 23=>v=.pointer (some ⟨g,o+6,none⟩)
 | 24=>v=.int .i64 pk
 | 25=>v=.int .i64 e4
 | 26=>v=.pointer (some ⟨g,o,none⟩)
 | 27=>v=.pointer (some ⟨g,o,none⟩)
 | 28=>v=.pointer (some ⟨g,o+6,none⟩)
 | 29=>v=.int .i64 pk
 | 30=>v=.int .i64 e5
 | 31=>v=.int .i64 e6
 | 32=>v=.int .i64 rn
 | 33=>v=.pointer (some ⟨g,o,none⟩)
 | 34=>v=.pointer (some ⟨g,o+4,none⟩)
 | _=>True
def Sm:Nat->Option Nat
 | 35=>some 0
 | _=>none
theorem Jm(g o na:Nat)(en st xk pk e2 e3 e4 e5 e6 rn:Int)(i r:Nat)(v:Value)(W W':World)(hk:∀k,Sm i=some k->k<r)(hR:(EU) r W W')(h:LY g o na en st xk pk e2 e3 e4 e5 e6 rn i v W):LY g o na en st xk pk e2 e3 e4 e5 e6 rn i v W':=by unfold LY at h ⊢;split at h <;> first | exact h
structure Ba (B g c:Nat) (l:List T.az) (w W:World):Prop where
 own:W.ownsRow B 94 7 (.slice (some ⟨g,0,none⟩) l.length c) l.length (fl l)
 gr:w.grownBy W (some g)
theorem Ba.below{B g c:Nat}{l:List T.az}{w W W':World}(h:Ba B g c l w W)(hb:Below W.heap.size W W'):Ba B g c l w W':=
 ⟨bz h.own hb,h.gr.trans ⟨hb.os,hb.tape,hb.output,hb.size,fun k hk _=>hb.block k hk⟩⟩
theorem Ba.put{B g c:Nat}{l:List T.az}{w W:World}(h:Ba B g c l w W){i:Nat}(hi:i<l.length)(j:Nat)(hj:j<7)(v:Value)(x:T.az)(hx:jy x=(jy (T.tr l i)).set j v):Ba B g c (l.set i x) w (W.setCell ⟨g,i * 7+j,none⟩ v):=by have h1:=qG h.own i j hi hj v x hx;refine⟨by rw[List.length_set]; exact h1,h.gr.trans ⟨rfl,rfl,rfl,by simp,fun k h1 h2=>zh _ _ _ k (fun e=>h2 (by rw[e]))⟩⟩
theorem Ba.cells{B g c:Nat}{l:List T.az}{w W:World}(h:Ba B g c l w W){i:Nat}(hi:i<l.length):W.rangeAt g (i * 7) (jy (T.tr l i)):=kH h.own i hi
theorem Ba.upd{B g c i o:Nat}{l:List T.az}{x x':T.az}{w W:World}(h:Ba B g c (l.set i x) w W)(hi:i<l.length)(ho:o=i * 7)(j:Nat)(hj:j<7)(v:Value)(hx:jy x'=(jy x).set j v):Ba B g c (l.set i x') w (W.setCell ⟨g,o+j,none⟩ v):=by have h1:=h.put (i:=i) (by simpa using hi) j hj v x' (by rw[T.fO l x i hi]; exact hx);rw[List.set_set]at h1;rw[ho]; exact h1
theorem Ba.q{B g c i o:Nat}{l:List T.az}{x:T.az}{w W:World}(h:Ba B g c (l.set i x) w W)(hi:i<l.length)(ho:o=i * 7):W.rangeAt g o (jy x):=by have h1:=h.cells (i:=i) (by simpa using hi);rw[T.fO l x i hi,<-ho]at h1;exact h1
structure TkB (t:T.az):Prop where
 st:0<=t.st
 len:1<=t.len
 e:t.st+t.len<=449849
 pk:0<=t.pk
 pk2:t.pk<=1024
theorem w1{a b:Int}(h:0<=a)(h1:1<=b)(h2:a+b<=449849):wrap64 (a+b)=a+b:=by unfold wrap64; omega
theorem w2{a:Int}{k:Nat}(h:0<=a)(h1:a+(k+1:Nat)<=449849):wrap64 (a+(k+1:Nat) - 1)=a+(k:Nat):=by unfold wrap64; omega
theorem JP{M:aP}{st:Int}{k:Nat}(h:(M.eu (st+(k:Nat))).1=0):iE M st (k+1)=iE M st k:=by show(if (M.eu (st+(k:Nat))).1=0 then iE M st k else k+1)=_;rw[zj h]
theorem JO{M:aP}{st:Int}{k:Nat}(h:(M.eu (st+(k:Nat))).1≠0):iE M st (k+1)=k+1:=by show(if (M.eu (st+(k:Nat))).1=0 then iE M st k else k+1)=_;rw[zi h]
theorem pkn{a:Nat}{st len pk:Int}(h0:0<=st)(h1:1<=len)(h2:st+len<=449849)(h3:0<pk)(h4:pk<=1024)(ha:(a:Int)<=len):
 wrap64 (st+(a:Int) - st)=a/\wrap64 ((a:Int)+pk)=(a:Int)+pk/\wrap64 ((a:Int)+pk - 1)=(a:Int)+pk - 1/\wrap64 (((a:Int)+pk - 1).tdiv pk)=((a:Int)+pk - 1).tdiv pk/\wrap64 (((a:Int)+pk - 1).tdiv pk * pk)=((a:Int)+pk - 1).tdiv pk * pk/\wrap64 (st+((a:Int)+pk - 1).tdiv pk * pk)=st+((a:Int)+pk - 1).tdiv pk * pk:=by
 have hn:0<=(a:Int)+pk - 1:=by omega
 have e:((a:Int)+pk - 1).tdiv pk=((a:Int)+pk - 1) / pk:=Int.tdiv_eq_ediv_of_nonneg hn;have q0:0<=((a:Int)+pk - 1) / pk:=Int.ediv_nonneg hn (by omega);have q1:((a:Int)+pk - 1) / pk * pk<=(a:Int)+pk - 1:=Int.ediv_mul_le _ (by omega);have q2:((a:Int)+pk - 1) / pk<=(a:Int)+pk - 1:=Int.ediv_le_self _ hn;have q3:0<=((a:Int)+pk - 1) / pk * pk:=Int.mul_nonneg q0 (by omega);rw[e];generalize ((a:Int)+pk - 1) / pk * pk=z at *;generalize ((a:Int)+pk - 1) / pk=q at *;unfold wrap64;refine⟨by omega,by omega,by omega,by omega,by omega,by omega⟩
theorem PH{w:World}{p pm B g c:Nat}{M:aP}{X R:Nat->Prop}(hm:gZ w pm M X R)(hn:M.n<=4096)(hc:w.cell? ⟨p,2,none⟩=some (.pointer (some ⟨pm,0,none⟩)))(hgp:g≠p)(hgx:¬ X g)(hgr:¬ R g)
 (l:List T.az)(ho:w.ownsRow B 94 7 (.slice (some ⟨g,0,none⟩) l.length c) l.length (fl l)){i:Nat}(hi:i<l.length)(hb:TkB (T.tr l i)):
 Calls prog 163 #[.pointer (some ⟨p,0,none⟩),.pointer (some ⟨g,i * 7,none⟩)] w fun e w'=>e=.returned (.tuple #[])/\Ba B g c (l.set i (jL M (T.tr l i))) w w':=by
 have hpl:p<w.heap.size:=zc w _ hc;obtain⟨L,hmc⟩:=hm;have acr:Hid (∀W,w.grownBy W (some g)->W.cell? ⟨p,2,none⟩=some (.pointer (some ⟨pm,0,none⟩))/\∀b:Int,Calls prog 68 #[.pointer (some ⟨pm,0,none⟩),.int .i64 b] W (aaj (.tuple #[.int .i64 (M.eu b).1,.int .i64 (M.eu b).2]) W)):=zH fun W hW=>by
  refine⟨?_,fun b=>xR ⟨L,hmc.keep hW.size fun b hb=>hW.block b (hmc.lt b hb) fun e=>?_⟩ hn b⟩
  ·have:=hW.block p hpl (fun e=>hgp (zs e).symm);rw[<-hc]; simp only[World.cell?,this]
  ·have:=zs e;subst this;exact hb.elim hgx hgr
 obtain⟨o,hoo⟩:∃o,o=i * 7:=⟨_,rfl⟩;have HO:=zH hoo;have xY:Hid (Ba B g c l w w):=zH ⟨ho,⟨rfl,rfl,rfl,zl _,fun _ _ _=>rfl⟩⟩;obtain⟨t,ht⟩:∃t,t=T.tr l i:=⟨_,rfl⟩;have HT:=zH ht;have HI:=zH hi;rw[<-ht]at hb;obtain⟨b1,b2,b3,b4,b5⟩:=hb;have HB:=zH (And.intro b1 (And.intro b2 (And.intro b3 (And.intro b4 b5))));rw[<-ht,<-hoo];clear hmc hn hc hgp hgx hgr ho hi ht hoo hpl;obtain⟨num,bP,st,len,nx,cZ,pk⟩:=t;dsimp only at b1 b2 b3 b4 b5 HB;obtain⟨ln,rfl⟩:∃n:Nat,len=n:=⟨len.toNat,by omega⟩;have EH:Hid (Ba B g c (l.set i ⟨num,bP,st,ln,nx,cZ,pk⟩) w w):=zH (by
  have e2:l.set i ⟨num,bP,st,ln,nx,cZ,pk⟩=l:=by
   apply List.ext_getElem
   ·simp
   ·intro j h1 h2;rw[List.getElem_set];by_cases hij:i=j
    ·subst hij; rw[zj rfl,HT.out]; simp[T.tr,h2]
    ·rw[zi hij]
  rw[e2]; exact xY.out)
 obtain⟨q0,q1,q2,q3,q4,q5,q6⟩:=xO (EH.out.q HI.out HO.out);dsimp only at q0 q1 q2 q3 q4 q5 q6;by_cases hs2:cZ=2
 ·have HR:Hid (Ba B g c (l.set i (jL M ⟨num,bP,st,ln,nx,cZ,pk⟩)) w w):=zH (by
   have e:jL M ⟨num,bP,st,ln,nx,cZ,pk⟩=⟨num,bP,st,ln,nx,cZ,pk⟩:=by unfold jL; rw[zj hs2]
   rw[e]; exact EH.out)
  subst hs2;go_enter func163,ntmps163;go_wp2_with fail;refine zr (v:=.tuple #[]) (by simp[results,results163,go_sem]) rfl ?_;exact⟨rfl,HR.out⟩
 have hsd:decide (cZ=2)=false:=zf hs2;have hsq:(cZ == 2)=false:=beq_eq_false_iff_ne.2 hs2;have Z8:Hid (jL M ⟨num,bP,st,ln,nx,cZ,pk⟩=⟨num,bP,st,ln,jQ M ⟨num,bP,st,ln,nx,cZ,pk⟩,if jQ M ⟨num,bP,st,ln,nx,cZ,pk⟩=st then 0 else 1,pk⟩):=zH (by unfold jL; rw[zi hs2]);have VD:Hid (jQ M ⟨num,bP,st,ln,nx,cZ,pk⟩=if 0<pk then min (st+(ln:Int)) (st+((iE M st ln:Nat)+pk - 1).tdiv pk * pk) else st+(iE M st ln:Nat)):=zH (by unfold jQ; dsimp only; rw[Int.toNat_natCast]);have hen:=w1 b1 b2 b3;clear b1 b2 b3 b4 b5 hs2 xY HT;go_enter func163,ntmps163;go_upto_region 1 with (fail)
 go_quiet (fail);have hS1:=EH.out.below (Below.drewN (zB w.heap.size w) nq);have HSd:=zH hS1;obtain⟨q0,q1,q2,q3,q4,q5,q6⟩:=xO (hS1.q HI.out HO.out);have fg:=fun k=>hS1.own.frozenAt k
 generalize w.drewN nq=wd at *;clear hS1
 go_upto_block 0 with fail
 rw[hen]
 go_cut [5,6] from 25 to 55 (fun v5 v6 wx=>Hid (Ba B g c (l.set i ⟨num,bP,st,ln,st+(iE M st ln:Nat),cZ,pk⟩) w wx))
 case first=>
  go_wp2_with fail
  go_loopw [] (fun wr=>∃k:Nat,k<=ln/\Hid (iE M st ln=iE M st k)/\Hid (Ba B g c (l.set i ⟨num,bP,st,ln,st+(k:Nat),cZ,pk⟩) w wr)) (fun wr=>(RowKit.intOf ((wr.cell? ⟨g,o+4,none⟩).getD undef) - st).toNat)
  case atStart=>exact⟨ln,zl _,zH rfl,zH (HSd.out.upd HI.out HO.out 4 (by decide) _ rfl)⟩
  case round=>
   obtain⟨k,hk,HL,HSr⟩:=hrel;obtain⟨wo,rfl⟩:∃wo:World,wo=wr:=⟨_,rfl⟩;obtain⟨q0,q1,q2,q3,q4,q5,q6⟩:=xO (HSr.out.q HI.out HO.out);have HQ:=zH q4;rcases k with _ | k
   ·have q4':wo.cell? ⟨g,o+4,none⟩=some (.int .i64 st):=by rw[q4]; simp
    clear q4;go_upto_region 3 with (fail)
    go_quiet (fail);have hS2:=HSr.out.below (Below.drewN (zB wo.heap.size wo) nq);generalize wo.drewN nq=w2 at *;go_wp2_with fail;go_meet;exact zH (by rw[HL.out]; exact hS2)
   ·have hgt:st<st+((k+1:Nat):Int):=by omega
    have hy:=w2 (a:=st) (k:=k) HB.out.1 (by have:=HB.out.2.2.1; omega);obtain⟨xk,hnx⟩:∃n,n=st+((k+1:Nat):Int):=⟨_,rfl⟩;obtain⟨y,hyy⟩:∃n,n=st+((k:Nat):Int):=⟨_,rfl⟩;rw[<-hnx]at q4 hgt hy HQ;rw[<-hyy]at hy;have vZ:=zH hnx;have HYE:=zH hyy;have HKL:=zH hk;clear hnx hyy hk;go_upto_region 3 with (fail)
    go_quiet (fail);have hS2:=HSr.out.below (Below.drewN (zB wo.heap.size wo) nq);generalize wo.drewN nq=w2 at *;have HS2:=zH hS2;have hx:=acr.out w2 hS2.gr;obtain⟨q0,q1,q2,q3,q4,q5,q6⟩:=xO (hS2.q HI.out HO.out);rw[<-vZ.out]at q4;have hgl:=zc w2 _ q4;have hpl2:=zc w2 _ hx.1;have jD:Hid (∀W,Below w2.heap.size w2 W->W.cell? ⟨p,2,none⟩=some (.pointer (some ⟨pm,0,none⟩))/\W.cell? ⟨g,o+4,none⟩=some (.int .i64 xk)):=zH fun W hW=>⟨(hW.cell (p:=⟨p,2,none⟩) hpl2).trans hx.1,(hW.cell (p:=⟨g,o+4,none⟩) hgl).trans q4⟩
    obtain⟨s1,hs1⟩:∃s,s=(M.eu y).1:=⟨_,rfl⟩;obtain⟨s2,hs2⟩:∃s,s=(M.eu y).2:=⟨_,rfl⟩;have HST:Hid (∀W,Below w2.heap.size w2 W->Calls prog 68 #[.pointer (some ⟨pm,0,none⟩),.int .i64 y] W (aaj (.tuple #[.int .i64 s1,.int .i64 s2]) W)):=zH fun W hW=>by rw[hs1,hs2];exact(acr.out W (hS2.below hW).gr).2 y
    have acp:=zH hs1;clear hS2 hx q0 q1 q2 q3 q4 q5 q6 hgl hpl2 hs1 hs2;go_upto_region 4 with (fail)
    refine cu (by kernel_rfl) (fun W W'=>Below W.heap.size W W') (fun W=>Below w2.heap.size w2 W) (LX p pm g o xk y s1 s2) (fun _=>false) (by kernel_rfl) (fun W W' hR h=>h.trans (hR.mono h.size)) (Jl p pm g o xk y s1 s2) ((zB _ _).drew) ⟨?_,?_,?_,?s3,?_,?_,?_,?s7,?s8,?s9,?_,?_,?_,?_,?_,trivial⟩ ?_;all_goals first
     | (intro a W hc hsz hold ah
        have o0:a.tmps.getD 0 undef=.pointer (some ⟨p,0,none⟩):=hold 0 (by kernel_rfl);have o1:a.tmps.getD 1 undef=.pointer (some ⟨g,o,none⟩):=hold 1 (by kernel_rfl);try have d0:=zV 35 (.pointer (some ⟨p,0,none⟩)) (ah 0 rfl rfl _ rfl)
        try have d1:=zV 36 (.pointer (some ⟨p,0,none⟩)) (ah 1 rfl rfl _ rfl)
        try have d4:=zV 39 (.pointer (some ⟨g,o,none⟩)) (ah 4 rfl rfl _ rfl)
        try have d5:=zV 40 (.pointer (some ⟨g,o,none⟩)) (ah 5 rfl rfl _ rfl)
        try have d9:=zV 44 (.tuple #[.int .i64 s1,.int .i64 s2]) (ah 9 rfl rfl _ rfl)
        try have d10:=zV 34 (.tuple #[.int .i64 s1,.int .i64 s2]) (ah 10 rfl rfl _ rfl)
        try have d11:=zV 45 (.int .i64 s1) (ah 11 rfl rfl _ rfl)
        try have d12:=zV 46 (.int .i64 s2) (ah 12 rfl rfl _ rfl)
        clear hsz hold ah;refine ai rfl (ag rfl) ?_;refine ak (zB _ _) rfl fun K hK=>?_
        go_simp;exact hK)
     | skip
    try case s3=>
     intro a W hc hsz hold ah;have d2:=zV 37 (.pointer (some ⟨p,2,none⟩)) (ah 2 (by kernel_rfl) rfl _ rfl);have z0:=(jD.out W hc).1;clear hsz hold ah;refine ai rfl (ag rfl) ?_;refine ak (v:=.pointer (some ⟨pm,0,none⟩)) (zB _ _) rfl fun K hK=>?_
     go_simp;exact hK
    try case s7=>
     intro a W hc hsz hold ah;have d6:=zV 41 (.pointer (some ⟨g,o+4,none⟩)) (ah 6 (by kernel_rfl) rfl _ rfl);have z0:=(jD.out W hc).2;clear hsz hold ah;refine ai rfl (ag rfl) ?_;refine ak (v:=.int .i64 xk) (zB _ _) rfl fun K hK=>?_
     go_simp;exact hK
    try case s8=>
     intro a W hc hsz hold ah;have d7:=zV 42 (.int .i64 xk) (ah 7 (by kernel_rfl) rfl _ rfl);clear hsz hold ah;refine ai rfl (ag rfl) ?_;refine ak (v:=.int .i64 y) (zB _ _) rfl fun K hK=>?_
     have hw8:IntKind.i64.wrap (xk - 1)=y:=(IntWalk.i64_left _).trans hy;go_simp;exact hK
    try case s9=>
     intro a W hc hsz hold ah;have d3:=zV 38 (.pointer (some ⟨pm,0,none⟩)) (ah 3 (by kernel_rfl) rfl _ rfl);have e3:=zq d3;have d8:=zV 43 (.int .i64 y) (ah 8 (by kernel_rfl) rfl _ rfl);have e8:=zq d8;clear hsz hold ah;refine ai rfl (ag rfl) ?_;refine di (v:=.tuple #[.int .i64 s1,.int .i64 s2]) (fun W' hb=>hb) (fun _=>rfl) fun K hK=>?_
     go_simp;refine(HST.out W hc).mono ?_;rintro e w' ⟨rfl,hb'⟩;exact hK _ hb'
    ·intro a W hC hd hsz hold hval;have d5:a.tmps.getD 5 undef=.int .i64 s1:=hval 13 _ rfl rfl;have d6:a.tmps.getD 6 undef=.int .i64 s2:=hval 14 _ rfl rfl;obtain⟨G,hG,ha⟩:=cO [5,6,34,35,36,37,38,39,40,41,42,43,44,45,46] (by kernel_rfl) hd hsz hold;simp only[hG]at d5 d6;rw[ha];clear ha hG hd hsz hold;simp only[bI,List.setIfInBounds_toArray,List.set,d5,d6];clear d5 d6;have hC:Below w2.heap.size w2 W:=hC;have hS3:=HS2.out.below hC;obtain⟨q0,q1,q2,q3,q4,q5,q6⟩:=xO (hS3.q HI.out HO.out);rw[<-vZ.out]at q4;have fg:=fun k=>hS3.own.frozenAt k
     have qQ:=zH hS3;clear hS3 hC hval;by_cases h0:s1=0
     ·have HZ:=zH h0;have hd0:decide (s1=0)=true:=zt h0;have hq0:(s1 == 0)=true:=beq_iff_eq.2 h0;clear h0;go_wp2_with fail;go_roundw;case rel=>
       exact⟨k,by have:=HKL.out; omega,zH (HL.out.trans (JP (by rw[<-HYE.out,<-acp.out]; exact HZ.out))),zH (qQ.out.upd HI.out HO.out 4 (by decide) _ (by rw[HYE.out]; rfl))⟩
      case measure=>
       have e1:=vZ.out;have e2:=HYE.out;have hn:=(xO ((qQ.out.upd HI.out HO.out (x':=⟨num,bP,st,ln,y,cZ,pk⟩) 4 (by decide) (.int .i64 y) rfl).q HI.out HO.out)).2.2.2.2.1;have hq:=HQ.out;first
        | (simp only[RowKit.intOf]; omega)
        | (rw[hn,hq]; simp only[RowKit.intOf,Option.getD_some]; omega)
     ·have HZ:=zH h0;have hd0:decide (s1=0)=false:=zf h0;have hq0:(s1 == 0)=false:=beq_eq_false_iff_ne.2 h0;clear h0;go_wp2_with fail;go_meet;exact zH (by rw[HL.out,JO (by rw[<-HYE.out,<-acp.out]; exact HZ.out)]; exact qQ.out)
 case rest=>
  have HSx:=hcut;obtain⟨na,ha⟩:∃a,a=iE M st ln:=⟨_,rfl⟩;have hal:na<=ln:=by rw[ha]; exact yS M st ln
  rw[<-ha]at HSx VD;obtain⟨q0,q1,q2,q3,q4,q5,q6⟩:=xO (HSx.out.q HI.out HO.out);obtain⟨rn,hrn⟩:∃n,n=jQ M ⟨num,bP,st,ln,nx,cZ,pk⟩:=⟨_,rfl⟩;rw[<-hrn]at VD Z8;obtain⟨en,hee⟩:∃n,n=st+(ln:Int):=⟨_,rfl⟩;rw[<-hee]at VD;have HE:=zH hee;have VS:=zH hal;clear ha hal hrn;rw[<-hee];clear hee
  go_upto_if 60 with (fail)
  go_cut [] from 60 to 95 (fun wx=>Hid (Ba B g c (l.set i ⟨num,bP,st,ln,rn,cZ,pk⟩) w wx))
  case first=>
   by_cases hp:0<pk
   ·obtain⟨p1,p2,p3,p4,p5,p6⟩:=pkn (a:=na) HB.out.1 HB.out.2.1 HB.out.2.2.1 hp HB.out.2.2.2.2 (by have:=VS.out; omega);have hz0:rn=min en (st+((na:Int)+pk - 1).tdiv pk * pk):=by rw[VD.out,zj hp]
    have hp0:pk≠0:=by omega
    have hpd:decide (0<pk)=true:=zt hp;obtain⟨e2,he2⟩:∃n,n=(na:Int)+pk:=⟨_,rfl⟩;obtain⟨e3,he3⟩:∃n,n=(na:Int)+pk - 1:=⟨_,rfl⟩;obtain⟨e4,he4⟩:∃n,n=((na:Int)+pk - 1).tdiv pk:=⟨_,rfl⟩;obtain⟨e5,he5⟩:∃n,n=((na:Int)+pk - 1).tdiv pk * pk:=⟨_,rfl⟩;obtain⟨e6,he6⟩:∃n,n=st+((na:Int)+pk - 1).tdiv pk * pk:=⟨_,rfl⟩;obtain⟨xk,hnx⟩:∃n,n=st+(na:Int):=⟨_,rfl⟩;have P1:wrap64 (xk - st)=(na:Nat):=by rw[hnx]; exact p1
    have P2:wrap64 ((na:Nat)+pk)=e2:=by rw[he2]; exact p2
    have P3:wrap64 (e2 - 1)=e3:=by rw[he2,he3]; exact p3
    have P4:wrap64 (e3.tdiv pk)=e4:=by rw[he3,he4]; exact p4
    have P5:wrap64 (e4 * pk)=e5:=by rw[he4,he5]; exact p5
    have P6:wrap64 (st+e5)=e6:=by rw[he5,he6]; exact p6
    have hz:rn=min en e6:=by rw[he6]; exact hz0
    rw[<-hnx]at q4;clear hz0 he6 he5 he4 he3 he2 hnx p1 p2 p3 p4 p5 p6;have HZ:=zH hz;rw[zt hp];go_upto_region 8 with (fail)
    have HQ4:Hid (wc.drew.cell? ⟨g,o+4,none⟩=some (.int .i64 xk)):=zH q4;have HQF:Hid (∀k,wc.drew.frozen? ⟨g,k,none⟩=false):=zH fun k=>HSx.out.own.frozenAt k
    have jD:Hid (∀r W,r<=0->aaz wc.drew (wc.drew.setCell ⟨g,o+4,none⟩ (.int .i64 rn)) r W->W.cell? ⟨g,o+2,none⟩=some (.int .i64 st)/\W.cell? ⟨g,o+4,none⟩=some (.int .i64 xk)/\W.cell? ⟨g,o+6,none⟩=some (.int .i64 pk)):=zH fun r W hr h=>by obtain rfl:r=0:=Nat.le_zero.1 hr;rw[show W=wc.drew from h];exact⟨q2,q4,q6⟩
    have QI:=zH (HSx.out.below ((zB wc.heap.size wc).drew));clear q0 q1 q2 q3 q4 q5 q6 hz;refine lY (by kernel_rfl) (EU) (aaz wc.drew (wc.drew.setCell ⟨g,o+4,none⟩ (.int .i64 rn))) (LY g o na en st xk pk e2 e3 e4 e5 e6 rn) (fun _=>false) Sm 1 (by kernel_rfl) (by kernel_rfl) (.inl (by kernel_rfl)) (Jm g o na en st xk pk e2 e3 e4 e5 e6 rn) (rfl) ⟨?_,?_,?_,?_,?_,?s5,?_,?_,?_,?s9,?_,?_,?_,?s13,?s14,?_,?_,?_,?s18,?s19,?s20,?_,?_,?_,?s24,?s25,?_,?_,?_,?s29,?s30,?s31,?s32,?_,?_,?s35,trivial⟩ ?_;all_goals first
     | (intro r a W hc hsz hold ah hnot hlo hhi hrk
        have o1:a.tmps.getD 1 undef=.pointer (some ⟨g,o,none⟩):=hold 1 (by kernel_rfl);have o4:a.tmps.getD 4 undef=.int .i64 en:=hold 4 (by kernel_rfl);try have d0:=zV 61 (.pointer (some ⟨g,o,none⟩)) (ah 0 rfl rfl _ rfl)
        try have d2:=zV 63 (.pointer (some ⟨g,o,none⟩)) (ah 2 rfl rfl _ rfl)
        try have d3:=zV 64 (.pointer (some ⟨g,o,none⟩)) (ah 3 rfl rfl _ rfl)
        try have d6:=zV 67 (.pointer (some ⟨g,o,none⟩)) (ah 6 rfl rfl _ rfl)
        try have d7:=zV 68 (.pointer (some ⟨g,o,none⟩)) (ah 7 rfl rfl _ rfl)
        try have d10:=zV 71 (.pointer (some ⟨g,o,none⟩)) (ah 10 rfl rfl _ rfl)
        try have d11:=zV 72 (.pointer (some ⟨g,o,none⟩)) (ah 11 rfl rfl _ rfl)
        try have d15:=zV 76 (.pointer (some ⟨g,o,none⟩)) (ah 15 rfl rfl _ rfl)
        try have d16:=zV 77 (.pointer (some ⟨g,o,none⟩)) (ah 16 rfl rfl _ rfl)
        try have d21:=zV 82 (.pointer (some ⟨g,o,none⟩)) (ah 21 rfl rfl _ rfl)
        try have d22:=zV 83 (.pointer (some ⟨g,o,none⟩)) (ah 22 rfl rfl _ rfl)
        try have d26:=zV 87 (.pointer (some ⟨g,o,none⟩)) (ah 26 rfl rfl _ rfl)
        try have d27:=zV 88 (.pointer (some ⟨g,o,none⟩)) (ah 27 rfl rfl _ rfl)
        try have d33:=zV 94 (.pointer (some ⟨g,o,none⟩)) (ah 33 rfl rfl _ rfl)
        clear hsz hold ah hnot hlo hhi hrk;refine ai rfl (ag rfl) ?_;refine aJ (bG _ _ _) hc rfl fun K hK=>?_
        go_simp;exact hK)
     | skip
    try case s5=>
     intro r a W hc hsz hold ah hnot hlo hhi hrk;have d4:=zV 65 (.pointer (some ⟨g,o+2,none⟩)) (ah 4 (by kernel_rfl) rfl _ rfl);have hb:=hhi 35 0 rfl (by kernel_rfl);obtain⟨z2,z4,z6⟩:=jD.out r W hb hc;clear hsz hold ah hnot hlo hhi hrk;refine ai rfl (ag rfl) ?_;refine aJ (v:=.int .i64 st) (bG _ _ _) hc rfl fun K hK=>?_
     go_simp;exact hK
    try case s9=>
     intro r a W hc hsz hold ah hnot hlo hhi hrk;have d8:=zV 69 (.pointer (some ⟨g,o+4,none⟩)) (ah 8 (by kernel_rfl) rfl _ rfl);have hb:=hhi 35 0 rfl (by kernel_rfl);obtain⟨z2,z4,z6⟩:=jD.out r W hb hc;clear hsz hold ah hnot hlo hhi hrk;refine ai rfl (ag rfl) ?_;refine aJ (v:=.int .i64 xk) (bG _ _ _) hc rfl fun K hK=>?_
     go_simp;exact hK
    try case s13=>
     intro r a W hc hsz hold ah hnot hlo hhi hrk;have d12:=zV 73 (.pointer (some ⟨g,o+2,none⟩)) (ah 12 (by kernel_rfl) rfl _ rfl);have hb:=hhi 35 0 rfl (by kernel_rfl);obtain⟨z2,z4,z6⟩:=jD.out r W hb hc;clear hsz hold ah hnot hlo hhi hrk;refine ai rfl (ag rfl) ?_;refine aJ (v:=.int .i64 st) (bG _ _ _) hc rfl fun K hK=>?_
     go_simp;exact hK
    try case s14=>
     intro r a W hc hsz hold ah hnot hlo hhi hrk;have d9:=zV 70 (.int .i64 xk) (ah 9 (by kernel_rfl) rfl _ rfl);have d13:=zV 74 (.int .i64 st) (ah 13 (by kernel_rfl) rfl _ rfl);clear hsz hold ah hnot hlo hhi hrk;refine ai rfl (ag rfl) ?_;refine aJ (v:=.int .i64 (na:Nat)) (bG _ _ _) hc rfl fun K hK=>?_
     have hw8:IntKind.i64.wrap (xk - st)=(na:Nat):=(IntWalk.i64_left _).trans P1;go_simp;exact hK
    try case s18=>
     intro r a W hc hsz hold ah hnot hlo hhi hrk;have d17:=zV 78 (.pointer (some ⟨g,o+6,none⟩)) (ah 17 (by kernel_rfl) rfl _ rfl);have hb:=hhi 35 0 rfl (by kernel_rfl);obtain⟨z2,z4,z6⟩:=jD.out r W hb hc;clear hsz hold ah hnot hlo hhi hrk;refine ai rfl (ag rfl) ?_;refine aJ (v:=.int .i64 pk) (bG _ _ _) hc rfl fun K hK=>?_
     go_simp;exact hK
    try case s19=>
     intro r a W hc hsz hold ah hnot hlo hhi hrk;have d14:=zV 75 (.int .i64 (na:Nat)) (ah 14 (by kernel_rfl) rfl _ rfl);have d18:=zV 79 (.int .i64 pk) (ah 18 (by kernel_rfl) rfl _ rfl);clear hsz hold ah hnot hlo hhi hrk;refine ai rfl (ag rfl) ?_;refine aJ (v:=.int .i64 e2) (bG _ _ _) hc rfl fun K hK=>?_
     have hw8:IntKind.i64.wrap ((na:Nat)+pk)=e2:=(IntWalk.i64_left _).trans P2;go_simp;exact hK
    try case s20=>
     intro r a W hc hsz hold ah hnot hlo hhi hrk;have d19:=zV 80 (.int .i64 e2) (ah 19 (by kernel_rfl) rfl _ rfl);clear hsz hold ah hnot hlo hhi hrk;refine ai rfl (ag rfl) ?_;refine aJ (v:=.int .i64 e3) (bG _ _ _) hc rfl fun K hK=>?_
     have hw8:IntKind.i64.wrap (e2 - 1)=e3:=(IntWalk.i64_left _).trans P3;go_simp;exact hK
    try case s24=>
     intro r a W hc hsz hold ah hnot hlo hhi hrk;have d23:=zV 84 (.pointer (some ⟨g,o+6,none⟩)) (ah 23 (by kernel_rfl) rfl _ rfl);have hb:=hhi 35 0 rfl (by kernel_rfl);obtain⟨z2,z4,z6⟩:=jD.out r W hb hc;clear hsz hold ah hnot hlo hhi hrk;refine ai rfl (ag rfl) ?_;refine aJ (v:=.int .i64 pk) (bG _ _ _) hc rfl fun K hK=>?_
     go_simp;exact hK
    try case s25=>
     intro r a W hc hsz hold ah hnot hlo hhi hrk;have d20:=zV 81 (.int .i64 e3) (ah 20 (by kernel_rfl) rfl _ rfl);have d24:=zV 85 (.int .i64 pk) (ah 24 (by kernel_rfl) rfl _ rfl);clear hsz hold ah hnot hlo hhi hrk;refine ai rfl (ag rfl) ?_;refine aJ (v:=.int .i64 e4) (bG _ _ _) hc rfl fun K hK=>?_
     have hw8:IntKind.i64.wrap (e3.tdiv pk)=e4:=(IntWalk.i64_left _).trans P4;go_simp;exact hK
    try case s29=>
     intro r a W hc hsz hold ah hnot hlo hhi hrk;have d28:=zV 89 (.pointer (some ⟨g,o+6,none⟩)) (ah 28 (by kernel_rfl) rfl _ rfl);have hb:=hhi 35 0 rfl (by kernel_rfl);obtain⟨z2,z4,z6⟩:=jD.out r W hb hc;clear hsz hold ah hnot hlo hhi hrk;refine ai rfl (ag rfl) ?_;refine aJ (v:=.int .i64 pk) (bG _ _ _) hc rfl fun K hK=>?_
     go_simp;exact hK
    try case s30=>
     intro r a W hc hsz hold ah hnot hlo hhi hrk;have d25:=zV 86 (.int .i64 e4) (ah 25 (by kernel_rfl) rfl _ rfl);have d29:=zV 90 (.int .i64 pk) (ah 29 (by kernel_rfl) rfl _ rfl);clear hsz hold ah hnot hlo hhi hrk;refine ai rfl (ag rfl) ?_;refine aJ (v:=.int .i64 e5) (bG _ _ _) hc rfl fun K hK=>?_
     have hw8:IntKind.i64.wrap (e4 * pk)=e5:=(IntWalk.i64_left _).trans P5;go_simp;exact hK
    try case s31=>
     intro r a W hc hsz hold ah hnot hlo hhi hrk;have d5:=zV 66 (.int .i64 st) (ah 5 (by kernel_rfl) rfl _ rfl);have d30:=zV 91 (.int .i64 e5) (ah 30 (by kernel_rfl) rfl _ rfl);clear hsz hold ah hnot hlo hhi hrk;refine ai rfl (ag rfl) ?_;refine aJ (v:=.int .i64 e6) (bG _ _ _) hc rfl fun K hK=>?_
     have hw8:IntKind.i64.wrap (st+e5)=e6:=(IntWalk.i64_left _).trans P6;go_simp;exact hK
    try case s32=>
     intro r a W hc hsz hold ah hnot hlo hhi hrk;have d1:=zV 62 (.int .i64 en) (ah 1 (by kernel_rfl) rfl _ rfl);have e1:=zq d1;have d31:=zV 92 (.int .i64 e6) (ah 31 (by kernel_rfl) rfl _ rfl);have e31:=zq d31;clear hsz hold ah hnot hlo hhi hrk;refine ai rfl (ag rfl) ?_;refine aJ (v:=.int .i64 rn) (bG _ _ _) hc rfl fun K hK=>?_
     have hmn:=HZ.out;rw[hmn]at hK;go_simp;exact hK
    try case s35=>
     intro r a W hc hsz hold ah hnot hlo hhi hrk;have hr:=hrk 0 rfl;subst hr;have d34:=zV 95 (.pointer (some ⟨g,o+4,none⟩)) (ah 34 (by kernel_rfl) rfl _ rfl);have d32:=zV 93 (.int .i64 rn) (ah 32 (by kernel_rfl) rfl _ rfl);clear hsz hold ah hnot hlo hhi hrk;refine ai rfl (ag rfl) ?_;replace hc:W=wc.drew:=hc;subst hc;have z4:=HQ4.out;have zf:=HQF.out;refine jw (v:=undef) (w':=wc.drew.setCell ⟨g,o+4,none⟩ (.int .i64 rn)) (bG _ _ _) (show aaz _ _ 1 _ from rfl) trivial fun K hK=>?_
     go_simp;exact hK
    ·intro a W hC hd hsz hold hval;obtain⟨G,hG,ha⟩:=cO [61,62,63,64,65,66,67,68,69,70,71,72,73,74,75,76,77,78,79,80,81,82,83,84,85,86,87,88,89,90,91,92,93,94,95] (by kernel_rfl) hd hsz hold;rw[ha];clear ha hG hd hsz hold;simp only[bI,List.setIfInBounds_toArray,List.set];replace hC:W=wc.drew.setCell ⟨g,o+4,none⟩ (.int .i64 rn):=hC;subst hC;go_wp2_with fail;go_meet;exact zH (QI.out.upd HI.out HO.out 4 (by decide) _ rfl)
   ·have hpd:decide (0<pk)=false:=zf hp;have hz:rn=st+(na:Int):=by rw[VD.out,zi hp]
    rw[zf hp];go_wp2_with fail;go_meet;exact zH (by rw[hz]; exact HSx.out)
  case rest=>
   have HSy:=hcut;obtain⟨q0,q1,q2,q3,q4,q5,q6⟩:=xO (HSy.out.q HI.out HO.out);have fg:=fun k=>HSy.out.own.frozenAt k
   go_upto_region 10 with (fail)
   have hS5:=HSy.out.upd HI.out HO.out (x':=⟨num,bP,st,ln,rn,1,pk⟩) 5 (by decide) (.int .i64 1) rfl;generalize wc.setCell ⟨g,o+5,none⟩ (.int .i64 1)=w5 at *;clear q0 q1 q2 q3 q4 q5 q6;obtain⟨q0,q1,q2,q3,q4,q5,q6⟩:=xO (hS5.q HI.out HO.out);have xZ:=zH hS5;clear hS5;go_quiet (fail);have hS6:=xZ.out.below (Below.drewN (zB w5.heap.size w5) nq);generalize w5.drewN nq=w6 at *;clear q0 q1 q2 q3 q4 q5 q6;obtain⟨q0,q1,q2,q3,q4,q5,q6⟩:=xO (hS6.q HI.out HO.out);have fg:=fun k=>hS6.own.frozenAt k
   have wu:=zH hS6;clear hS6;by_cases hr:rn=st
   ·have hrd:decide (rn=st)=true:=zt hr;have hrq:(rn == st)=true:=beq_iff_eq.2 hr;have HR:=zH hr;clear hr;go_wp2_with fail;go_end0;refine⟨rfl,?_⟩;rw[Z8.out,zj HR.out];exact wu.out.upd HI.out HO.out 5 (by decide) _ rfl
   ·have hrd:decide (rn=st)=false:=zf hr;have hrq:(rn == st)=false:=beq_eq_false_iff_ne.2 hr;have HR:=zH hr;clear hr;go_wp2_with fail;go_end0;refine⟨rfl,?_⟩;rw[Z8.out,zi HR.out];exact wu.out
end T7
end Go.Proofs.YtfnehkmhcmkhjaaGreat
